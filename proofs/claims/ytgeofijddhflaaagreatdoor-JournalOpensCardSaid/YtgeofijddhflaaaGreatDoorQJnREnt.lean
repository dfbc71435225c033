/- The document's journal: Entries. Condition: the journal's memory stands. -/
import Derived.Test.YtgeofijddhflaaaGreatDoorQJnSaveM
set_option maxHeartbeats 8000000
set_option maxRecDepth 100000
namespace Go.Proofs.YtgeofijddhflaaaGreatDoor
section
open Go.RowKit Oct
structure RqR where
 s:aC4
 tn:Bool
 lo:Int
 em:Bool
 al:Option Addr
 cl:Nat
 ae:Option Addr
 ce:Nat
 rs:List aF2
def RqR.vl(q:RqR):Value:=.slice q.al q.rs.length q.cl
def RqR.ve(q:RqR):Value:=.slice q.ae q.s.ends.length q.ce
def RqR.o(q:RqR):aC4×Bool:=(q.s,q.tn)
instance:Inhabited RqR:=⟨⟨⟨0,0,0,[],[]⟩,false,0,false,none,0,none,0,[]⟩⟩
def aX4(q:RqR):List Value:=[.int .i64 q.s.k,.int .i64 q.s.first,.int .i64 q.s.term,q.vl,q.ve,.int .i64 q.lo,.bool q.em,.bool q.tn]
def aD5(l:List RqR):List Value:=l.flatMap aX4
theorem aH8(l:List RqR):(aD5 l).length=l.length*8:=by
 induction l with
 |nil=>rfl
 |cons x r ih=>unfold aD5 at ih⊢;rw[List.flatMap_cons,lT,ih,mC];simp[aX4];omega
theorem aY0(a b:List RqR):aD5 (a++b)=aD5 a++aD5 b:=by unfold aD5;rw[List.flatMap_append]
theorem aR8(l:List RqR){k:Nat}(hk:k<l.length){j:Nat}(hj:j<8):(aD5 l)[k*8+j]? =(aX4 l[k])[j]? :=by
 induction l generalizing k with
 |nil=>simp at hk
 |cons x r ih=>
  unfold aD5 at ih⊢;rw[List.flatMap_cons];cases k with
  |zero=>rw[List.getElem?_append_left (by simp[aX4];omega)];simp
  |succ k=>
   rw[List.getElem?_append_right (by simp[aX4];omega)];have:(k+1)*8+j-(aX4 x).length=k*8+j:=by simp[aX4];omega
   rw[this,ih (by simpa using hk)]
   rfl
theorem bI3(l:List RqR):∀u∈aD5 l,u.oneCell' =true:=by
 intro u hu;obtain⟨q,_,hx⟩:=List.mem_flatMap.1 hu;unfold aX4 at hx;simp only[List.mem_cons,List.not_mem_nil,or_false] at hx;rcases hx with rfl|rfl|rfl|rfl|rfl|rfl|rfl|rfl<;>rfl
theorem bF2(l:List RqR)(n:Nat):(aD5 l).take (n*8)=aD5 (l.take n):=by
 induction l generalizing n with
 |nil=>simp[aD5]
 |cons x r ih=>
  cases n with
  |zero=>simp[aD5]
  |succ n=>
   unfold aD5 at ih⊢;rw[List.flatMap_cons,List.take_succ_cons,List.flatMap_cons,<-ih n];have h8:(aX4 x).length=8:=rfl;rw[List.take_append,h8,List.take_of_length_le (by omega),show(n+1)*8-8=n*8 by omega]
theorem bF5(l:List RqR)(n:Nat):(aD5 l).drop (n*8)=aD5 (l.drop n):=by
 induction l generalizing n with
 |nil=>simp[aD5]
 |cons x r ih=>
  cases n with
  |zero=>simp[aD5]
  |succ n=>
   unfold aD5 at ih⊢;rw[List.flatMap_cons,List.drop_succ_cons,<-ih n];have h8:(aX4 x).length=8:=rfl;rw[List.drop_append,h8,List.drop_of_length_le (by omega),show(n+1)*8-8=n*8 by omega,List.nil_append]
theorem aM2:(Tryz.prog.info? 139).map (fun i=>(i.zero,i.size,i.bytes))=some (some (.agg #[.int .i64 0,.int .i64 0,.int .i64 0,.slice none 0 0,.slice none 0 0,.int .i64 0,.bool false,.bool false]),8,88):=by kernel_rfl
structure bS7(w:World)(B:Nat)(q:RqR):Prop where
 ents:w.ownsRow B 65 4 q.vl q.rs.length (aA7 q.rs)
 map:q.rs.map aF2.e=q.s.l
 dat:∀x∈q.rs,bC9 w B x.v x.e.b
 ends:Own w B 3 q.ve (q.s.ends.map (Value.int .i64))
section
variable{w w' :World}{B:Nat}{q:RqR}
theorem bS7.below(h:bS7 w B q)(hb:Below w.heap.size w w'):bS7 w' B q:=
 ⟨World.ownsRow.kept h.ents (aA5 hb none) (by cases q.vl.ownBlock<;>simp),h.map,fun x hx=>(h.dat x hx).keep fun k hk=>hb.block k ((h.dat x hx).lt k hk).2,Own.below h.ends hb (lR _)⟩
theorem bS7.mono(h:bS7 w B q){B' :Nat}(hb:B' <=B):bS7 w B' q:=⟨aV8 h.ents hb,h.map,fun x hx=>(h.dat x hx).mono hb,Own.mono h.ends hb⟩
theorem bS7.grown(h:bS7 w B q){base n:Nat}{v:Value}{xs:List Value}(hown:w.ownsRow base 139 8 v n xs)(hg:w.grownBy w' v.ownBlock):bS7 w' B q:=
 ⟨World.ownsRow.kept h.ents hg (jrow_type_ne h.ents hown (by decide)),h.map,fun x hx=>(h.dat x hx).keep fun k hk=>hg.block k ((h.dat x hx).lt k hk).2 (fun e=>by
  obtain⟨g,cs,fz,e1,hc⟩:=(h.dat x hx).held;rw[hk] at e1;injection e1 with e1
  subst e1;obtain⟨cs',hc'⟩:=aD1 hown e.symm;rw[hc] at hc';injection hc' with hc'
  injection hc' with _ h _
  exact absurd h (by decide)),Own.kept h.ends hg (jrow_type_ne h.ends hown (by decide))⟩
theorem bS7.of_rg{G:Nat}{s:aC4}{rs:List aF2}{Al Ae:Option Addr}{cl ce:Nat}{lo:Int}{em tn:Bool}(h:bI0 w G s rs (.slice Al rs.length cl) (.slice Ae s.ends.length ce) lo em tn):bS7 w (G+1) ⟨s,tn,lo,em,Al,cl,Ae,ce,rs⟩:=⟨h.ents,h.map,h.dat,h.ends⟩
end
def bA9(l:List RqR)(at_:Nat)(q:RqR):List RqR:=l.take at_++[q]++l.drop at_
theorem rqIns_perm(l:List RqR)(n:Nat)(q:RqR):(bA9 l n q).Perm (l++[q]):=by
 unfold bA9;rw[List.append_assoc];refine(List.Perm.append_left _ (List.perm_append_comm (l₁:=[q]) (l₂:=l.drop n))).trans ?_;rw[<-List.append_assoc,List.take_append_drop]
theorem bZ7{l:List RqR}{n:Nat}{q:RqR}(hl:l.Pairwise fun x y=>x.s.k<=y.s.k)(hn:n<=l.length)(h1:∀j (h:j<n),(l[j]'(by omega)).s.k<q.s.k)(h2:∀h:n<l.length,q.s.k<=l[n].s.k):(bA9 l n q).Pairwise fun x y=>x.s.k<=y.s.k:=by
 have hb:∀x∈l.take n,x.s.k<q.s.k:=fun x hx=>by
  obtain⟨j,hj,rfl⟩:=List.getElem_of_mem hx;rw[lV] at hj;rw[List.getElem_take];exact h1 j (by omega)
 have ha:∀x∈l.drop n,q.s.k<=x.s.k:=fun x hx=>by
  obtain⟨j,hj,rfl⟩:=List.getElem_of_mem hx;rw[lZ] at hj;rw[List.getElem_drop];have h3:=h2 (by omega);cases j with
  |zero=>exact h3
  |succ j=>
   have:=List.pairwise_iff_getElem.1 hl n (n+(j+1)) (by omega) (by omega) (by omega);omega
 unfold bA9;refine List.pairwise_append.2 ⟨List.pairwise_append.2 ⟨hl.sublist (List.take_sublist _ _),List.pairwise_singleton _ _,fun x hx y hy=>?_⟩,hl.sublist (List.drop_sublist _ _),fun x hx y hy=>?_⟩
 ·obtain rfl:=List.mem_singleton.1 hy
  have:=hb x hx;omega
 have h5:=ha y hy;rcases List.mem_append.1 hx with hx|hx
 ·have:=hb x hx
  omega
 obtain rfl:=List.mem_singleton.1 hx;exact h5
theorem bY1(l:List RqR)(n:Nat)(q:RqR):(bA9 l n q).length=l.length+1:=by
 unfold bA9;simp only[lT,lV,lZ,mC,List.length_nil];omega
theorem rqIns_mem{l:List RqR}{n:Nat}{q x:RqR}(h:x∈bA9 l n q):x∈l∨x=q:=by
 have:=(rqIns_perm l n q).mem_iff.1 h;rcases List.mem_append.1 this with h|h
 ·exact .inl h
 exact .inr (List.mem_singleton.1 h)
def cU9(l:List RqR)(j:Nat)(h:j<l.length):Prop:=(∀h0:0<j,l[j].s.k=(l[j-1]'(by omega)).s.k+1)∧(j+1<l.length->l[j].tn=false∧l[j].em=false)
theorem cR0(l:List RqR)(a8:∀q∈l,q.em=q.s.ends.isEmpty):aL1 (l.map RqR.o)=true↔∀j h,cU9 l j h:=by
 rw[bD5];have he:∀j (h:j<l.length),l[j].em=false↔l[j].s.ends≠[]:=fun j h=>by
  rw[a8 _ (lX h)];simp
 constructor
 ·intro h j hj
  refine⟨fun h0=>?_,fun h1=>?_⟩
  ·have:=h (j-1) (by rw[lU];omega)
   simp only[List.getElem_map] at this;have e:j-1+1=j:=by omega
   simp only[e] at this;have h5:=this.1;simp only[RqR.o] at h5;omega
  have:=h j (by rw[lU];exact h1);simp only[List.getElem_map] at this;exact⟨this.2.1,(he j hj).2 this.2.2⟩
 intro h j hj;rw[lU] at hj;simp only[List.getElem_map];have h1:=(h (j+1) (by omega)).1 (by omega);have h2:=(h j (by omega)).2 (by omega);refine⟨?_,h2.1,(he j (by omega)).1 h2.2⟩;simp only[Nat.add_sub_cancel] at h1;simp only[RqR.o];omega
end
section
open Go.RowKit Oct
def bO4(l:List (List UInt8)):Nat:=(l.map fun p=>(aF1 p).length).sum
theorem bX6(b:List UInt8):∀f a,a<=b.length->(aV0 b f a).2.1=a+bO4 (aV0 b f a).1
 |0,a,_=>by simp[aV0,bO4]
 |f+1,a,ha=>by
  unfold aV0;split
  ·simp[bO4]
  rename_i h1
  split
  rotate_left
  ·simp[bO4]
  rename_i h2
  have h3:=aR1 h2;have h4:(aF1 (aD2 (b.drop a)).1).length=(aD2 (b.drop a)).2.1:=by
   have h5:=congrArg List.length h3.2.2.2;rw[lV] at h5;unfold aF1;rw[if_neg (by omega)];omega
  have h6:=h3.2.2.1;rw[lZ] at h6;have ih:=bX6 b f (a+(aD2 (b.drop a)).2.1) (by omega);simp only;rw[ih];unfold bO4;rw[mG,List.sum_cons,h4];omega
theorem cY8(b:List UInt8):(aE4 b).2.1=bO4 (aE4 b).1:=by
 have:=bX6 b (b.length+1) 0 (Nat.zero_le _);unfold aE4;omega
theorem bC6:∀(rows:List (List UInt8)) (a:Int) (s s' :aC4),aK7 rows a s=some s' ->s.ends.getLast?=some a->s'.ends.getLast?=some (a+bO4 rows)
 |[],a,s,s',h,hs=>by
  injection h with h
  subst h;rw[hs];simp[bO4]
 |p::r,a,s,s',h,hs=>by
  unfold aK7 at h;split at h
  ·cases h
  have:=bC6 r _ _ _ h (by simp);rw[this];unfold bO4;rw[mG,List.sum_cons]
  congr 1
  omega
theorem bY6{k:Int}{b:List UInt8}{s:aC4}{t:Bool}(h:aD9 k b=some (s,t)):((aE4 b).2.1:Int)=s.long∧decide ((aE4 b).1.length=0)=s.ends.isEmpty:=by
 have hs:=cY8 b;unfold aD9 at h;unfold aC4.long;split at h
 ·rename_i hr
  injection h with h
  injection h with h _
  subst h;rw[hs,hr];exact⟨rfl,rfl⟩
 rename_i p r hr
 split at h
 ·cases h
 rename_i f t' hd
 obtain⟨s',a8,e⟩:=Option.map_eq_some_iff.1 h;injection e with e _
 subst e;have h1:=bC6 r _ _ _ a8 rfl;rw[hs,hr];have h2:s'.ends≠[]:=fun e=>by rw[e] at h1;cases h1
 refine⟨?_,?_⟩
 ·rw[List.getLastD_eq_getLast?,h1]
  unfold bO4;rw[mG,List.sum_cons];show _=((aF1 p).length:Int)+_
  omega
 simp[h2]
theorem cJ6{P:Program}{e:TypeId}{i:TypeInfo}{n:Nat}(hi:P.info? e=some i)(hz:i.size=n)(w:World):(sizeOf e).run P w=.ok n w:=by
 simp[sizeOf,typeInfo,hi,hz]
theorem bK2{P:Program}{T e:TypeId}{z:Value}{size bytes:Nat}(ht:P.underlying T=some (.slice e))(a8:(P.info? e).map (fun i=>(i.zero,i.size,i.bytes))=some (some z,size,bytes))(A:Option Addr)(len cap hi:Nat)(h1:hi<=cap)(X:Int)(hX:X=(hi:Int))(w:World):
  (Instr.slice T (.slice A len cap) none (some (.int .i64 X)) none).run P w=.ok (.slice A hi cap) w:=by
 obtain⟨i,b8,hz,a9,d8⟩:=info_parts a8;subst hX;rw[run_slice_h w T A len cap (by rw[ht];simp[Program.elem,ht]) .i64 hi (by omega) (by omega)];have he:P.elem T=e:=by simp[Program.elem,ht]
 rw[he,cJ6 b8 a9];have hm:A.map (·.add 0)=A:=by cases A<;>simp[Addr.add]
 simp[sliced,Result.andThen,hm]
def cC2(A:Option Addr)(lo cap size:Nat):Option Addr:=if cap=lo then A else A.map (·.add (lo*size))
theorem bC3{P:Program}{T e:TypeId}{z:Value}{size bytes:Nat}(ht:P.underlying T=some (.slice e))(a8:(P.info? e).map (fun i=>(i.zero,i.size,i.bytes))=some (some z,size,bytes))(A:Option Addr)(len cap lo:Nat)(h1:lo<=len)(X:Int)(hX:X=(lo:Int))(w:World):
  (Instr.slice T (.slice A len cap) (some (.int .i64 X)) none none).run P w=.ok (.slice (cC2 A lo cap size) (len-lo) (cap-lo)) w:=by
 obtain⟨i,b8,hz,a9,d8⟩:=info_parts a8;subst hX;rw[run_slice_l w T A len cap (by rw[ht];simp[Program.elem,ht]) .i64 lo (by omega) (by omega)];have he:P.elem T=e:=by simp[Program.elem,ht]
 rw[he,cJ6 b8 a9];simp[sliced,cC2,Result.andThen]
theorem dK0{w:World}{A:Option Addr}{recs:List RqR}{m:Nat}(hm:m<=recs.length)(h:0<recs.length->∃g,A=some ⟨g,0,none⟩∧∀j u,(aD5 recs)[j]? =some u->w.cell? ⟨g,j,none⟩=some u):
  0<m->∃ad,A=some ad∧∀j u,(aD5 (recs.take m))[j]? =some u->w.cell? (ad.add j)=some u:=fun h0=>by
 obtain⟨g,e,hc⟩:=h (by omega);refine⟨_,e,fun j u hu=>?_⟩;rw[show(⟨g,0,none⟩:Addr).add j=⟨g,j,none⟩ by simp[Addr.add_lit]];refine hc j u ?_;rw[<-bF2] at hu;rw[List.getElem?_take] at hu;split at hu
 ·exact hu
 cases hu
theorem dK7{w:World}{A:Option Addr}{recs:List RqR}{m cap:Nat}(hm:m<=recs.length)(hc:recs.length<=cap)(h:0<recs.length->∃g,A=some ⟨g,0,none⟩∧∀j u,(aD5 recs)[j]? =some u->w.cell? ⟨g,j,none⟩=some u):
  0<recs.length-m->∃ad,cC2 A m cap 8=some ad∧∀j u,(aD5 (recs.drop m))[j]? =some u->w.cell? (ad.add j)=some u:=fun h0=>by
 obtain⟨g,e,hx⟩:=h (by omega);refine⟨⟨g,m*8,none⟩,?_,fun j u hu=>?_⟩
 ·unfold cC2
  rw[if_neg (by omega),e];simp[Addr.add_lit]
 rw[show(⟨g,m*8,none⟩:Addr).add j=⟨g,m*8+j,none⟩ by simp[Addr.add_lit]];refine hx _ u ?_;rw[<-bF5,List.getElem?_drop] at hu;exact hu
end
section
open Go.RowKit Go.Maps Oct
structure cZ7(w:World)(F:Nat->Prop)(q:RqR):Prop where
 num:aZ8 q.s
 cap:q.rs.length<=q.cl∧q.cl<=maxLen∧q.s.ends.length<=q.ce∧q.ce<=maxLen
 ents:RdF w F q.al (aA7 q.rs)
 map:q.rs.map aF2.e=q.s.l
 dat:∀x∈q.rs,bF9 w F x.v x.e.b
 ends:RdF w F q.ae (q.s.ends.map (Value.int .i64))
 lo:q.lo=q.s.long
 em:q.em=q.s.ends.isEmpty
theorem cE4(k f t:Int)(Al Ae:Option Addr)(cl n ce:Nat)(lo:Int)(em tn:Bool)(hf:-9223372036854775807<=f∧f<=9223372036854775807)(w:World):
  Calls Tryz.prog 89 #[.agg #[.int .i64 k,.int .i64 f,.int .i64 t,.slice Al 0 cl,.slice Ae n ce,.int .i64 lo,.bool em,.bool tn]] w fun e w' =>e=.returned (.tuple #[.int .i64 (f-1),.int .i64 t])∧Below w.heap.size w w' :=by
 obtain⟨w1,a8⟩:∃W,W=w.alloc (.cells #[.int .i64 k,.int .i64 f,.int .i64 t,.slice Al 0 cl,.slice Ae n ce,.int .i64 lo,.bool em,.bool tn] 139):=⟨_,rfl⟩
 have a9:Below w.heap.size w w1:=by rw[a8];exact(lS _ w).alloc (lR _) _
 have b8:Blk w1 w.heap.size 139 #[.int .i64 k,.int .i64 f,.int .i64 t,.slice Al 0 cl,.slice Ae n ce,.int .i64 lo,.bool em,.bool tn]:=by rw[a8];exact Blk.new w _ _
 obtain⟨c0,c1,c2,c3,c4,c5,c6,c7⟩:=aW8 b8;have HB:=qZ a9;have HW:=qZ a8;clear a9 b8 a8;go_enter Tryz.func89,Tryz.ntmps89
 go_upto_region 1 with fail
 rw[<-HW.out];go_wp2_with fail
 go_quiet (fail);go_wp2_with fail
 go_ret2
 exact⟨rfl,aA3 HB.out _⟩
theorem cC3(k f t:Int)(Al Ae:Option Addr)(cl n ce m:Nat)(lo:Int)(em tn:Bool)(eb eo:Nat)(ix tm kd:Int)(Av:Option Addr)(nv cd:Nat)(hm:m<=4611686018427387904)(w:World)
  (e0:w.cell? ⟨eb,eo+m*4,none⟩=some (.int .i64 ix)) (e1:w.cell? ⟨eb,eo+m*4+1,none⟩=some (.int .i64 tm)) (e2:w.cell? ⟨eb,eo+m*4+2,none⟩=some (.int .i64 kd)) (e3:w.cell? ⟨eb,eo+m*4+3,none⟩=some (.slice Av nv cd)) (d8:eb<w.heap.size):
  Calls Tryz.prog 89 #[.agg #[.int .i64 k,.int .i64 f,.int .i64 t,.slice (some ⟨eb,eo,none⟩) (m+1) cl,.slice Ae n ce,.int .i64 lo,.bool em,.bool tn]] w fun e w' =>e=.returned (.tuple #[.int .i64 ix,.int .i64 tm])∧Below w.heap.size w w' :=by
 obtain⟨w1,b8⟩:∃W,W=w.alloc (.cells #[.int .i64 k,.int .i64 f,.int .i64 t,.slice (some ⟨eb,eo,none⟩) (m+1) cl,.slice Ae n ce,.int .i64 lo,.bool em,.bool tn] 139):=⟨_,rfl⟩
 have a8:Below w.heap.size w w1:=by rw[b8];exact(lS _ w).alloc (lR _) _
 have f6:Blk w1 w.heap.size 139 #[.int .i64 k,.int .i64 f,.int .i64 t,.slice (some ⟨eb,eo,none⟩) (m+1) cl,.slice Ae n ce,.int .i64 lo,.bool em,.bool tn]:=by rw[b8];exact Blk.new w _ _
 obtain⟨c0,c1,c2,c3,c4,c5,c6,c7⟩:=aW8 f6;have d0:=(a8.cell (p:=⟨eb,eo+m*4,none⟩) d8).trans e0;have d1:=(a8.cell (p:=⟨eb,eo+m*4+1,none⟩) d8).trans e1;have d2:=(a8.cell (p:=⟨eb,eo+m*4+2,none⟩) d8).trans e2;have d3:=(a8.cell (p:=⟨eb,eo+m*4+3,none⟩) d8).trans e3;obtain⟨w2,a9⟩:∃W,W=w1.alloc (.cells #[.int .i64 ix,.int .i64 tm,.int .i64 kd,.slice Av nv cd] 65):=⟨_,rfl⟩
 have f7:Below w.heap.size w w2:=by rw[a9];exact a8.alloc a8.size _
 have d9:Blk w2 w1.heap.size 65 #[.int .i64 ix,.int .i64 tm,.int .i64 kd,.slice Av nv cd]:=by rw[a9];exact Blk.new w1 _ _
 have f0:w2.cell? ⟨w1.heap.size,0,none⟩=some (.int .i64 ix):=d9.cell 0;have f1:w2.cell? ⟨w1.heap.size,1,none⟩=some (.int .i64 tm):=d9.cell 1;have HB:=qZ f7;have HW:=qZ b8;have f8:=qZ a9;clear a8 f6 b8 f7 d9 a9 e0 e1 e2 e3;go_enter Tryz.func89,Tryz.ntmps89
 go_upto_region 1 with fail
 rw[<-HW.out];go_upto_region 4 with fail
 rw[<-f8.out];go_quiet (fail);go_wp2_with fail
 go_ret2
 exact⟨rfl,aA3 HB.out _⟩
theorem cZ7.last{w:World}{F:Nat->Prop}{q:RqR}(h:cZ7 w F q)(hl:q.s.l.length<=4611686018427387904):
  Calls Tryz.prog 89 #[.agg #[.int .i64 q.s.k,.int .i64 q.s.first,.int .i64 q.s.term,q.vl,q.ve,.int .i64 q.lo,.bool q.em,.bool q.tn]] w fun e w' =>e=.returned (.tuple #[.int .i64 q.s.last.1,.int .i64 q.s.last.2])∧Below w.heap.size w w' :=by
 obtain⟨s,tn,lo,em,al,cl,ae,ce,rs⟩:=q;have h6:=h.ents;have h7:=h.map;have h8:=h.dat;have d9:=h.num.first;have d8:rs.length=s.l.length:=by rw[<-h7,lU]
 unfold RqR.vl RqR.ve;simp only at h6 h7 h8 d9 hl⊢;rw[<-d8] at hl;rcases mJ rs with rfl|⟨r,x,rfl⟩
 ·have a9:s.last=(s.first-1,s.term):=by
   unfold aC4.last;rw[<-h7]
   rfl
  rw[a9];exact cE4 s.k s.first s.term al ae cl s.ends.length ce lo em tn (by omega) w
 rw[mA] at h6 h7 h8;simp only[mA,lT] at hl⊢;have a9:s.last=(x.e.ix,x.e.tm):=by
  unfold aC4.last;rw[<-h7];simp
 rw[a9];obtain⟨eb,eo,rfl,_,b8,hc⟩:=h6 (by rw[aC3];simp);obtain⟨Av,cd,hv,_⟩:=h8 x (by simp);have a8:∀j,j<4->(aA7 (r++[x]))[r.length*4+j]? =(aK2 x)[j]? :=fun j hj=>by
  rw[aF4 _ (k:=r.length) (by simp) hj];simp
 have e0:=hc (r.length*4+0) _ (a8 0 (by omega));have e1:=hc (r.length*4+1) _ (a8 1 (by omega));have e2:=hc (r.length*4+2) _ (a8 2 (by omega));have e3:=hc (r.length*4+3) _ (a8 3 (by omega));exact cC3 s.k s.first s.term none ae cl s.ends.length ce r.length lo em tn eb eo x.e.ix x.e.tm x.e.kd Av x.e.b.length cd (by simp at hl;omega) w (by simpa[Nat.add_assoc] using e0) (by simpa[Nat.add_assoc] using e1) (by simpa[Nat.add_assoc] using e2) (by simpa[hv,Nat.add_assoc] using e3) b8
theorem dD5{w:World}{gj:Nat}{v0 v1 v2 v3:Value}{bad:Int}(hB:Blk w gj 94 #[v0,v1,v2,v3,.int .i64 bad])(e:Int):
  Calls Tryz.prog 84 #[.pointer (some ⟨gj,0,none⟩),.int .i64 e] w fun r w' =>r=.returned (.bool (bad==0&&e==0))∧w' =if bad=0 then w.setCell ⟨gj,4,none⟩ (.int .i64 e) else w:=by
 have c4:w.cell? ⟨gj,4,none⟩=some (.int .i64 bad):=hB.cell 4;have z4:w.frozen? ⟨gj,4,none⟩=false:=hB.frozen _;by_cases h:bad=0
 ·subst h
  have a8:=hB.set_ 4 (.int .i64 e);have d4:(w.setCell ⟨gj,4,none⟩ (.int .i64 e)).cell? ⟨gj,4,none⟩=some (.int .i64 e):=a8.cell 4;clear a8 hB;go_enter Tryz.func84,Tryz.ntmps84
  go_wp2_with fail
  go_ret
  exact⟨rfl,rfl⟩
 have hb:(bad==0)=false:=beq_eq_false_iff_ne.2 h;rw[if_neg h];clear hB h;go_enter Tryz.func84,Tryz.ntmps84
 go_wp2_with fail
 go_ret
 exact⟨by rw[hb];rfl,rfl⟩
end
section
open Go.RowKit Go.Maps Oct
theorem bC7{d:DkD}{t v:Int}(h:aF3 d=some (t,v)):(-9223372036854775808<=t∧t<=9223372036854775807)∧(-9223372036854775808<=v∧v<=9223372036854775807):=by
 unfold aF3 at h;split at h
 split at h
 ·injection h with h
  injection h with h1 h2
  omega
 split at h
 ·cases h
 split at h
 ·rename_i t' v' h1
  injection h with h
  injection h with h2 h3
  subst h2 h3;have k:=aR6 2 _ _ _ h1;have k1:=k t' (by simp);have k2:=k v' (by simp);omega
 cases h
def bD2(recs:List aG5):List aD3:=match recs.getLast? with
 |none=>[]
 |some q=>(if q.tn=true then[.cut (aA8 q.s.k) q.s.long] else[])++[.sync (aA8 q.s.k)]
theorem cC6(recs:List aG5)(m:Int×Int)(d:DkD){st:Nat}(a8:st<=recs.length)(h:aG2 [] (recs.map aG5.s)=(recs.map aG5.s).drop st){r:Int×DkD}(hr:r=aI5 ((recs.take st).map (fun q=>aD3.rm (aA8 q.s.k))++bD2 recs) d):
  aE3 (recs.map aG5.o) m d=(r.1,if r.1=0 then some ⟨m.1,m.2,(recs.map aG5.s).drop st,0⟩ else none,r.2):=by
 subst hr;have h1:(recs.map aG5.o).map (·.1)=recs.map aG5.s:=by rw[List.map_map];rfl
 have h2:(recs.map aG5.o).getLast?=recs.getLast?.map aG5.o:=List.getLast?_map;have h3:(recs.map aG5.o).length-((recs.map aG5.s).drop st).length=st:=by
  rw[lU,lZ,lU];omega
 have h4:((recs.map aG5.o).take st).map (fun f=>aD3.rm (aA8 f.1.k))=(recs.take st).map (fun q=>aD3.rm (aA8 q.s.k)):=by
  rw[<-List.map_take,List.map_map]
  rfl
 unfold aE3;simp only[h1,h];rw[h3,h4,h2];unfold bD2;cases recs.getLast?<;>rfl
theorem cO8(r:List aG5)(q:aG5):bD2 (r++[q])=(if q.tn=true then[.cut (aA8 q.s.k) q.s.long] else[])++[.sync (aA8 q.s.k)]:=by
 unfold bD2;rw[List.getLast?_append];simp
theorem bE1:∀{l:List aD3},(∀a∈l,a.cost=0)->aI4 l=0
 |[],_=>rfl
 |a::r,h=>by
  rw[bD8,h a (List.mem_cons_self ..),bE1 (fun b hb=>h b (List.mem_cons_of_mem _ hb))]
theorem cX9(l recs:List aG5):aI4 (l.map (fun q=>aD3.rm (aA8 q.s.k))++bD2 recs)=0:=by
 refine bE1 fun a ha=>?_
 rcases List.mem_append.1 ha with ha|ha
 ·obtain⟨q,_,rfl⟩:=List.mem_map.1 ha
  rfl
 unfold bD2 at ha;split at ha
 ·cases ha
 rcases List.mem_append.1 ha with ha|ha
 ·split at ha
  ·rw[List.mem_singleton.1 ha];rfl
  cases ha
 rw[List.mem_singleton.1 ha];rfl
theorem dG0(recs:List aG5):(bD2 recs).length<=2:=by
 unfold bD2;split
 ·simp
 rw[lT];split<;>simp
theorem aM7.box{W:World}{F E:Nat->Prop}{A:Option Addr}{recs:List aG5}(h:aM7 W F A recs){i:Nat}(hi:i<recs.length){q:aG5}(hq:q=recs[i]){b:Nat}(hb:Blk W b 106 #[.int .i64 q.s.k,.int .i64 q.s.first,.int .i64 q.s.term,.slice q.al q.rs.length q.cl,.slice q.ae q.s.ends.length q.ce,.bool q.tn])(hE:∀k,F k->E k)(b8:E b):aT8 W E ⟨b,0,none⟩ q.s:=by
 obtain⟨gr,rfl,d8,d9,hc⟩:=h.addr (by omega);obtain⟨hS,a8⟩:=hc i hi;rw[<-hq] at hS a8;obtain⟨⟨Al,cl,rs,Ae,ce,h1,h2,h3,h4,h5,h6,h7,h8,h9⟩,hn⟩:=hS;obtain⟨b0,o0,e,_,_,a9⟩:=h1 (by simp);injection e with e
 injection e with e1 e2 _
 subst e1 e2;have k3:=a9 3 _ rfl;rw[a8 3 _ rfl] at k3;injection k3 with k3
 have k4:=a9 4 _ rfl;rw[a8 4 _ rfl] at k4;injection k4 with k4
 unfold aG5.vl at k3;unfold aG5.ve at k4;refine⟨⟨Al,cl,rs,Ae,ce,fun _=>⟨b,0,rfl,b8,hb.lt,fun j u hu=>?_⟩,h2,h3,h4,h5,h6.mono hE,h7,fun x hx=>(h8 x hx).mono hE,h9.mono hE⟩,hn⟩;rw[Nat.zero_add];rw[k3,k4] at hb;refine aL6 hb j u ?_;have hj:=(List.getElem?_eq_some_iff.1 hu).1;rw[<-hu];simp only[mC,List.length_nil] at hj;rcases(by omega:j=0∨j=1∨j=2∨j=3∨j=4) with rfl|rfl|rfl|rfl|rfl<;>rfl
theorem bS2.segM{w:World}{F:Nat->Prop}{ad:Addr}{q:aG5}(h:bS2 q)(hs:aT8 w F ad q.s):bC8 w F ad q.s:=⟨hs,h.ok.ends,by have:=h.len;omega,h.txt⟩
theorem OpS.endSome{w wy:World}{base g m bd gj:Nat}{es es3:List (Nm×FE)}{d3:DkD}{mt mv:Int}{As Al:Option Addr}{cs:Nat}{F1 F2:Nat->Prop}{recs:List aG5}{st ls:Nat}(h:OpS w base g m es bd gj d3 mt mv (.slice As ls cs) 0 wy es3)(hL:aM7 wy F1 Al recs)(f7:st<=recs.length)(d8:ls=recs.length-st)(d9:ls<=cs∧cs<=maxLen)(hR:RdF wy F2 As (bH0 Al st recs.length))(f6:∀q∈recs,bS2 q)(hn:recs.length<=1000000000)
  (a8:(-9223372036854775808<=mt∧mt<=9223372036854775807)∧(-9223372036854775808<=mv∧mv<=9223372036854775807)) (hF:∀k,F1 k∨F2 k->w.heap.size<=k∧k<wy.heap.size∧k≠gj∧¬aB1 g m es3 k) {r:Int×Option JnP×DkD} (hr:r=(0,some ⟨mt,mv,(recs.map aG5.s).drop st,0⟩,d3)):
  cY3 w base g m es r (.returned (.tuple #[.pointer (some ⟨gj,0,none⟩),.int .i64 0])) wy:=by
 subst hr;have a9:((recs.map aG5.s).drop st).length=ls:=by rw[lZ,lU,d8]
 have f9:=h.lo;refine⟨es3,h.disk,h.fs,h.fr,h.grow,gj,fun k=>F1 k∨F2 k,rfl,by omega,?_,hF⟩;refine⟨?_,by show((recs.map aG5.s).drop st).length<=_;omega,a8⟩;refine⟨As,cs,(List.range' st (recs.length-st)).map (fun q=>⟨(Al.map Addr.block).getD 0,q*6,none⟩),?_,?_,?_,?_,?_⟩
 ·show Blk wy gj _ #[.int .i64 mt,.int .i64 mv,.slice As ((recs.map aG5.s).drop st).length cs,_,_]
  rw[a9];exact h.jb
 ·show((recs.map aG5.s).drop st).length<=cs∧_
  rw[a9];exact d9
 ·have e:(List.map (fun q=>(⟨(Al.map Addr.block).getD 0,q*6,none⟩:Addr)) (List.range' st (recs.length-st))).map (fun a=>Value.pointer (some a))=bH0 Al st recs.length:=by
   unfold bH0 dN0;rw[List.map_map]
   rfl
  rw[e];exact hR.mono (fun k hk=>.inr hk)
 ·show _=((recs.map aG5.s).drop st).length
  rw[a9,d8];simp
 intro i hi b8;have g9:i<recs.length-st:=by simpa using hi
 obtain⟨gr,rfl,f8,g8,hc⟩:=hL.addr (by omega);have e1:((recs.map aG5.s).drop st)[i]'(b8)=(recs[st+i]'(by omega)).s:=by
  rw[List.getElem_drop,List.getElem_map]
 show bC8 wy _ _ (((recs.map aG5.s).drop st)[i]'(b8))
 rw[e1];simp only[List.getElem_map,List.getElem_range',Nat.one_mul];exact(f6 _ (lX _)).segM ((hc (st+i) (by omega)).1.mono (fun k hk=>.inl hk))
theorem EF.fresh{bd lo hi nE:Nat}{W:World}{b:Nat}{T:TypeId}{cs:Array Value}(hb:Blk W b T cs)(h1:nE<=b)(hT:T≠98):EF bd lo hi nE W b:=.inr (.inr ⟨h1,hb.lt,fun cs' fz e=>by
 have e2:=e.symm.trans hb;injection e2 with e2
 injection e2 with _ e2 _
 exact hT e2.symm⟩)
end
section
open Go.RowKit Oct
def bU8(w1 wr:World)(base g gj:Nat)(vL:Value)(es:List (Nm×RF))(d:DkD):Prop:=∃vL' es',aB0 wr base g d.pw d.room vL' es' ∧sec RF.f es' =d.fs∧Fr (fun k=>aC1 g vL es k∨k=gj) w1 wr∧∀k,aC1 g vL' es' k->aC1 g vL es k∨w1.heap.size<=k
section
variable{w1 wr w2:World}{base g gj:Nat}{vL:Value}{es:List (Nm×RF)}{d d2:DkD}
theorem bU8.start{p:PWD}{room:Int}(h:aB0 w1 base g p room vL es):bU8 w1 w1 base g gj vL es (aJ1 p room es):=⟨vL,es,h,rfl,Fr.refl _ _,fun _ hk=>.inl hk⟩
theorem bU8.far(h:bU8 w1 wr base g gj vL es d)(b8:¬aC1 g vL es gj)(d8:gj<w1.heap.size):∃a9 a8,aB0 wr base g d.pw d.room a9 a8∧sec RF.f a8=d.fs∧¬aC1 g a9 a8 gj:=by
 obtain⟨a9,a8,h1,h2,_,h4⟩:=h;refine⟨a9,a8,h1,h2,fun e=>?_⟩;rcases h4 _ e with e|e
 ·exact b8 e
 omega
theorem bU8.step{vL1:Value}{es1:List (Nm×RF)}(hf:Fr (fun k=>aC1 g vL es k∨k=gj) w1 wr)(hi:∀k,aC1 g vL1 es1 k->aC1 g vL es k∨w1.heap.size<=k)(h:RTo wr base g vL1 es1 d2 w2):bU8 w1 w2 base g gj vL es d2:=by
 obtain⟨a9,a8,h1,h2,h3,h4⟩:=h;have hs:=hf.size;refine⟨a9,a8,h1,h2,hf.trans h3 (fun k hk=>(hi k hk).imp .inl id),fun k hk=>?_⟩;rcases h4 k hk with e|e
 ·exact hi k e
 exact .inr (by omega)
theorem bU8.set(h:bU8 w1 wr base g gj vL es d)(b8:¬aC1 g vL es gj)(d8:gj<w1.heap.size)(i:Nat)(u:Value):bU8 w1 (wr.setCell ⟨gj,i,none⟩ u) base g gj vL es d:=by
 obtain⟨a9,a8,h1,h2,h3,h4⟩:=h;have hg:=aA0 wr gj i u;have hn:∀k,aC1 g a9 a8 k->k≠gj:=fun k hk e=>by
  rcases h4 k hk with x|x
  ·exact b8 (e▸x)
  omega
 refine⟨a9,a8,h1.keep hg.size (fun k hk=>hg.block k (h1.lt k hk).2 (fun e=>hn k hk (Option.some.inj e))),h2,h3.trans (Fr.of_grown (mine:=fun k=>k=gj) hg (fun k hk=>(Option.some.inj hk).symm)) (fun k hk=>.inl (.inr hk)),h4⟩
end
end
section
open Go.RowKit Oct
def cE2(recs:List RqR):List aD3:=match recs.getLast? with
 |none=>[]
 |some q=>(if q.tn=true then[.cut (aA8 q.s.k) q.s.long] else[])++[.sync (aA8 q.s.k)]
theorem bZ2(recs:List RqR)(m:Int×Int)(d:DkD){st:Nat}(a8:st<=recs.length)(h:aG2 [] (recs.map RqR.s)=(recs.map RqR.s).drop st){r:Int×DkD}(hr:r=aI5 ((recs.take st).map (fun q=>aD3.rm (aA8 q.s.k))++cE2 recs) d):
  aE3 (recs.map RqR.o) m d=(r.1,if r.1=0 then some ⟨m.1,m.2,(recs.map RqR.s).drop st,0⟩ else none,r.2):=by
 subst hr;have h1:(recs.map RqR.o).map (·.1)=recs.map RqR.s:=by rw[List.map_map];rfl
 have h2:(recs.map RqR.o).getLast?=recs.getLast?.map RqR.o:=List.getLast?_map;have h3:(recs.map RqR.o).length-((recs.map RqR.s).drop st).length=st:=by
  rw[lU,lZ,lU];omega
 have h4:((recs.map RqR.o).take st).map (fun f=>aD3.rm (aA8 f.1.k))=(recs.take st).map (fun q=>aD3.rm (aA8 q.s.k)):=by
  rw[<-List.map_take,List.map_map]
  rfl
 unfold aE3;simp only[h1,h];rw[h3,h4,h2];unfold cE2;cases recs.getLast?<;>rfl
theorem cM3(r:List RqR)(q:RqR):cE2 (r++[q])=(if q.tn=true then[.cut (aA8 q.s.k) q.s.long] else[])++[.sync (aA8 q.s.k)]:=by
 unfold cE2;rw[List.getLast?_append];simp
theorem aX7(r:List RqR)(q:RqR)(m:Int×Int)(d:DkD):aI7 ((r++[q]).map RqR.o) m d=if q.s.ends.isEmpty=true then(if(d.remove (aA8 q.s.k)).1=0 then aE3 (r.map RqR.o) m (d.remove (aA8 q.s.k)).2 else((d.remove (aA8 q.s.k)).1,none,(d.remove (aA8 q.s.k)).2)) else aE3 ((r++[q]).map RqR.o) m d:=by
 unfold aI7;rw[mE,mG,List.map_nil,List.getLast?_append];simp only[List.getLast?_singleton,Option.some_or,List.dropLast_concat]
 rfl
end
section
open Oct
def aL4(l:List aC4):Nat:=(l.map fun s=>s.l.length).sum
theorem cD6(j:JnP):j.ents.length=aL4 j.segs:=by
 unfold JnP.ents aL4;rw[List.length_flatten,List.map_map]
 rfl
theorem cC5(l:List aC4)(n:Nat):aL4 (l.drop n)<=aL4 l:=by
 have h:=congrArg aL4 (List.take_append_drop n l);unfold aL4 at h⊢;rw[mE,List.sum_append] at h;omega
theorem cC4(l:List aC4)(n:Nat):aL4 (l.take n)<=aL4 l:=by
 have h:=congrArg aL4 (List.take_append_drop n l);unfold aL4 at h⊢;rw[mE,List.sum_append] at h;omega
theorem aS5:∀{l:List (Nm×FD)} {x:List (aC4×Bool)},aD0 l=some x->(aL4 (x.map (·.1)):Int)<=aB8 l
 |[],x,h=>by
  injection h with h
  subst h;exact Int.le_refl _
 |q::r,x,h=>by
  rw[aD0] at h;have h0:=aD7 r;split at h
  ·have:=aS5 h
   simp only[aB8];omega
  split at h
  ·cases h
  rename_i s hs
  cases hl:aD0 r with
  |none=>rw[hl] at h;cases h
  |some y=>
   rw[hl] at h;injection h with h
   subst h;have h1:=aS5 hl;have h2:=(bK3 (s:=s.1) (t:=s.2) hs).2;simp only[aB8];unfold aL4 at h1⊢;simp only[mG,List.sum_cons];omega
theorem cS2{d:DkD}{l:List (aC4×Bool)}(h:aM4 d=some l):(aL4 (l.map (·.1)):Int)<=aB8 d.fs:=by
 unfold aM4 at h;split at h
 ·cases h
 rename_i x hx
 split at h
 ·injection h with h
  have h1:=aS5 hx;have h2:aL4 (l.map (·.1))=aL4 (x.map (·.1)):=by
   rw[<-h];unfold aL4;rw[List.map_map,List.map_map];exact((List.mergeSort_perm x _).map _).sum_nat
  omega
 cases h
theorem aS8{l:List (aC4×Bool)}{m:Int×Int}{d d' :DkD}{c:Int}{j:JnP}(h:aE3 l m d=(c,some j,d')):j.ents.length<=aL4 (l.map (·.1)):=by
 unfold aE3 at h;dsimp only at h
 generalize aI5 _ d=r at h
 simp only[Prod.mk.injEq] at h;obtain⟨_,h,_⟩:=h;split at h
 ·injection h with h
  rw[cD6,<-h];obtain⟨st,_,_,h3⟩:=bF3 (l.map (·.1)) l.length (by simp);rw[List.take_of_length_le (by simp)] at h3;show aL4 (aG2 [] (l.map (·.1)))<=_
  rw[h3];exact cC5 _ _
 cases h
theorem cN5{d d' :DkD}{c:Int}{j:JnP}(h:aI1 d=(c,some j,d')):(j.ents.length:Int)<=aB8 d.fs:=by
 by_cases ho:d.pw.off=true
 ·rw[bB4 ho] at h
  cases h
 rw[bH6 (by simpa using ho)] at h;split at h
 rotate_left
 ·cases h
 have a8:aB8 (aP6 d).2.fs<=aB8 d.fs:=by
  unfold aP6;split
  ·unfold DkD.remove
   split
   ·exact Int.le_refl _
   split
   ·exact Int.le_refl _
   unfold DkD.whole;simp only;split
   ·exact aR3 _ _
   exact Int.le_refl _
  exact Int.le_refl _
 rw[aT3] at h;cases hm:aF3 (aP6 d).2 with
 |none=>rw[hm] at h;cases h
 |some m=>
  cases hl:aM4 (aP6 d).2 with
  |none=>rw[hm,hl] at h;cases h
  |some l=>
   rw[hm,hl] at h;have h1:=cS2 hl;have h2:j.ents.length<=aL4 (l.map (·.1)):=by
    change aI7 l m (aP6 d).2=_ at h;unfold aI7 at h;split at h
    ·exact aS8 h
    split at h
    ·split at h
     ·have h3:=aS8 h
      have h4:=cC4 (l.map (·.1)) (l.length-1);rw[List.dropLast_eq_take,List.map_take] at h3;omega
     cases h
    exact aS8 h
   omega
theorem cL4(l:List (aC4×Bool))(o:Option (aC4×Bool)):aI4 (l.map (fun f=>aD3.rm (aA8 f.1.k))++(match o with
  |none=>[]
  |some f=>(if f.2=true then[aD3.cut (aA8 f.1.k) f.1.long] else[])++[aD3.sync (aA8 f.1.k)]))=0:=by
 refine bE1 fun a ha=>?_
 rcases List.mem_append.1 ha with h|h
 ·obtain⟨f,_,rfl⟩:=List.mem_map.1 h;rfl
 cases o with
 |none=>cases h
 |some f=>
  simp only at h;rcases List.mem_append.1 h with h|h
  ·split at h
   ·rw[List.mem_singleton.1 h];rfl
   cases h
  rw[List.mem_singleton.1 h];rfl
theorem aV5{l:List (aC4×Bool)}{m:Int×Int}{d:DkD}{L:Nat}(h:JDk L d):JDk L (aE3 l m d).2.2:=by
 unfold aE3;dsimp only
 have h1:=h.runs (((l.take (l.length-(aG2 [] (l.map (·.1))).length)).map fun f=>aD3.rm (aA8 f.1.k))++(match l.getLast? with
  |none=>[]
  |some f=>(if f.2=true then[aD3.cut (aA8 f.1.k) f.1.long] else[])++[aD3.sync (aA8 f.1.k)]))
 rw[cL4] at h1;exact h1
theorem cT5{d:DkD}{L:Nat}(h:JDk L d):JDk L (aI1 d).2.2:=by
 by_cases ho:d.pw.off=true
 ·rw[bB4 ho]
  exact h
 rw[bH6 (by simpa using ho)];have h2:=cC0 h;split
 rotate_left
 ·exact h2
 rw[aT3];cases hm:aF3 (aP6 d).2 with
 |none=>exact h2
 |some m=>
  cases hl:aM4 (aP6 d).2 with
  |none=>exact h2
  |some l=>
   show JDk L (aI7 l m (aP6 d).2).2.2
   unfold aI7;have h3:∀n,JDk L ((aP6 d).2.remove n).2:=fun n=>h2.run (.rm n)
   split
   ·exact aV5 h2
   split
   ·split
    ·exact aV5 (h3 _)
    exact h3 _
   exact aV5 h2
end
section
open Go.RowKit Go.Maps Go.Sort Oct
theorem cK6{w:World}{base g:Nat}{p:PWD}{room:Int}{vL:Value}{es:List (Nm×RF)}(h:aB0 w base g p room vL es)(hl:es.length<=1099511627776)(hn:∀q∈es,q.1.length<=1000)(n4:∀q∈es,q.2.f.b.length<=1000000000):
    Calls Tryz.prog 87 #[.pointer (some ⟨g,0,none⟩)] w fun e w' =>Below w.heap.size w w' ∧∃v,e=.returned (.tuple #[v,.bool (aM4 (aJ1 p room es)).isSome])∧
      ∀l,aM4 (aJ1 p room es)=some l->∃a8:List RqR,w'.ownsRow w.heap.size 139 8 v a8.length (aD5 a8)∧a8.map RqR.o=l∧∀q∈a8,bS7 w' w.heap.size q∧q.lo=q.s.long∧q.em=q.s.ends.isEmpty:=by
  obtain⟨x,y,hb,_⟩:=h.blk;have x7:=qZ hb;obtain⟨A,c,M4,l7,l8,d9⟩:=h.shape;have I5:=qZ d9;have H:=qZ h;have d8:=h.glt;have D8:=qZ hn;have G2:=qZ n4;clear d9 hb h hn n4;subst M4;go_enter Tryz.func87,Tryz.ntmps87
  go_upto_block 0 with fail
  go_cut [4] from 12 to 75 (fun v wx=>∃a8:List RqR,a8.length<=es.length∧Hid (wx.ownsRow w.heap.size 139 8 v a8.length (aD5 a8))∧Hid (∃l,aD0 (sec RF.f es)=some l∧(a8.map RqR.o).Perm l)∧Hid (a8.Pairwise fun x y=>x.s.k<=y.s.k)∧Hid (∀q∈a8,bS7 wx w.heap.size q∧(q.lo=q.s.long∧q.em=q.s.ends.isEmpty)∧1<=q.s.k∧q.s.k<=999999999)∧Hid (Below w.heap.size w wx))
  case first=>
   go_wp2_with fail
   go_loopw [5,4,6,7,8,9,10] (fun i v _ _ _ _ _ wr=>∃(k:Nat) (a8:List RqR),k<=es.length∧i=.int .i64 k∧a8.length<=k∧Hid (wr.ownsRow w.heap.size 139 8 v a8.length (aD5 a8))∧Hid (∃l,aD0 ((sec RF.f es).take k)=some l∧(a8.map RqR.o).Perm l)∧Hid (a8.Pairwise fun x y=>x.s.k<=y.s.k)∧Hid (∀q∈a8,bS7 wr w.heap.size q∧(q.lo=q.s.long∧q.em=q.s.ends.isEmpty)∧1<=q.s.k∧q.s.k<=999999999)∧Hid (Below w.heap.size w wr)) (fun i _ _ _ _ _ _ _=>es.length-(intOf i).toNat)
   case atStart=>exact⟨0,[],by omega,rfl,lR _,qZ (World.ownsRow_nil _ _ _ _),qZ ⟨[],rfl,List.Perm.refl _⟩,qZ List.Pairwise.nil,qZ (fun q hq=>by cases hq),qZ (lS _ _)⟩
   obtain⟨k,a8,hk,rfl,j8,HO,HL,HP,HF,HB⟩:=hrel;have f8:=HB.out.size;obtain⟨Av,cv,hv,M3,L5,hx⟩:=aB2 HO.out;subst hv;have HX:=qZ hx;clear hx;have G6:Blk wr g 74 _:=(HB.out.block g d8).trans x7.out;have c0:wr.cell? ⟨g,0,none⟩=some (.slice A es.length c):=G6.cell 0;by_cases hlt:k<es.length
   rotate_left
   · obtain rfl:k=es.length:=by omega
     rw[List.take_of_length_le (by simp)] at HL;go_wp2_with fail
     go_meet;exact⟨a8,j8,HO,HL,HP,HF,HB⟩
   obtain⟨b,rfl,K9,q0,q1,q2,_⟩:=I5.out k hlt;have B5:=HB.out.cell (p:=⟨b,k*3,none⟩) K9;rw[q0] at B5;have l9:=lX hlt;obtain⟨Ax,cx,J6,J8,P0,C2⟩:=(H.out.got es[k] l9).shape;rw[J6] at q1;obtain⟨nm,t6⟩:∃nm,nm=es[k].1:=⟨_,rfl⟩
   obtain⟨fb,n4⟩:∃fb,fb=es[k].2.f.b:=⟨_,rfl⟩
   obtain⟨kn,q6⟩:∃kn,kn=cB5 nm:=⟨_,rfl⟩
   have O9:fb.length<=1000000000:=by rw[n4];exact G2.out _ l9
   have P7:nm.length<=1000:=by rw[t6];exact D8.out _ l9
   have I7:0<=kn∧kn<=999999999:=by rw[q6];exact bE3 nm
   have m6:(sec RF.f es).take (k+1)=(sec RF.f es).take k++[(nm,es[k].2.f)]:=by
     rw[List.take_add_one,lW (by simpa using hlt),t6];unfold sec;rw[List.getElem_map]
     rfl
   have m3:∀l,aD0 ((sec RF.f es).take k)=some l->aD0 ((sec RF.f es).take (k+1))=if kn=0 then some l else(aD9 kn fb).map fun s=>l++[s]:=fun l hl=>by
     rw[m6,aQ3,hl,q6,n4]
     rfl
   have n6:=qZ m3;rw[<-n4] at q1 C2 J8;have P1:(str nm).size=nm.length:=aK1 nm;have C3:=qZ (cB3 (str nm) (by omega) wr);rw[show(str nm).data.toList=nm from by simp[str],<-q6] at C3;rw[<-t6] at B5;have D3:=qZ C2;have M1:=qZ q1;clear m3 m6 l9 q6 n4 t6 C2 J6 q0 q1 q2;go_wp2_with fail
   refine C3.out.mono ?_;rintro e w2 ⟨rfl,n8⟩;have P6:=n8.size;have m4:=qZ (HB.out.trans (n8.mono f8));have x8:=qZ (aE6 HO.out n8);have p8:=qZ (fun q hq=>And.intro ((HF.out q hq).1.below n8) (HF.out q hq).2);have p4:Blk w2 g 74 _:=(m4.out.block g d8).trans x7.out;have O4:w2.cell? ⟨g,0,none⟩=some (.slice (some ⟨b,0,none⟩) es.length c):=p4.cell 0;have L9:=m4.out.cell (p:=⟨b,k*3+1,none⟩) K9;rw[M1.out] at L9;clear n8 HB HO HF C3 G6 p4 c0 B5;by_cases h0:kn=0
   · subst h0
     have B4:=qZ (HL.out.imp fun l hl=>And.intro ((n6.out l hl.1).trans (if_pos rfl)) hl.2);clear n6 D3;go_wp2_with fail
     go_roundw
     case rel=>exact⟨k+1,a8,by omega,by go_num,by omega,x8,B4,HP,p8,m4⟩
     case measure=>simp[intOf];omega
   have E9:1<=kn∧kn<=999999999:=by omega
   have J1:=qZ (cN4 kn (by omega) Ax fb cx w2 ((D3.out.below m4.out).more m4.out.size) J8 (by omega) (by omega));clear D3;go_wp2_with fail
   refine J1.out.mono ?_;rintro e w4 ⟨p6,v4,rfl,⟨a1,a2,a3,Al,nl,cl,Ae,ne,ce,lo,em,tn,rfl⟩,hS⟩;have O3:=p6.size;have m8:=qZ (m4.out.trans (p6.mono m4.out.size));have z9:=qZ (aE6 x8.out p6);have t4:=qZ (fun q hq=>And.intro ((p8.out q hq).1.below p6) (p8.out q hq).2);have C4:=qZ hS;clear hS m4 x8 p8 J1;rcases hrs:aD9 kn fb with _|⟨sg,J3⟩
   · have O8:=qZ hrs
     have I1:aM4 (aJ1 p room es)=none:=by
       obtain⟨l,q8,_⟩:=HL.out;have h3:=n6.out l q8;rw[if_neg h0,hrs] at h3;have h1:=aY1 (r:=(sec RF.f es).drop (k+1)) h3;rw[List.take_append_drop] at h1;unfold aM4;rw[show(aJ1 p room es).fs=sec RF.f es from rfl,h1]
     have M7:=qZ (m8.out.trans ((lS _ w4).alloc (by have:=m8.out.size;omega) (.cells #[.int .i64 a1,.int .i64 a2,.int .i64 a3,.slice Al nl cl,.slice Ae ne ce,.int .i64 lo,.bool em,.bool tn] 139)));have I6:=qZ I1;clear I1 m8 t4 z9 hrs n6 C4 HL;go_wp2_with fail
     go_ret2
     exact⟨M7.out,_,by rw[I6.out];rfl,fun l h=>by rw[I6.out] at h;cases h⟩
   obtain⟨G,rs,vl,ve,hG,n7,hv,K3,O5,O6,q8,I9⟩:=C4.out sg J3 hrs;have t9:=bY6 hrs;rw[t9.1,t9.2] at hv n7;injection hv with hv
   have e1:Value.int .i64 a1=.int .i64 sg.k:=by have:=congrArg (fun a:Array Value=>a[0]?) hv;simpa using this
   have e2:Value.int .i64 a2=.int .i64 sg.first:=by have:=congrArg (fun a:Array Value=>a[1]?) hv;simpa using this
   have e3:Value.int .i64 a3=.int .i64 sg.term:=by have:=congrArg (fun a:Array Value=>a[2]?) hv;simpa using this
   have e4:Value.slice Al nl cl=vl:=by have:=congrArg (fun a:Array Value=>a[3]?) hv;simpa using this
   have e5:Value.slice Ae ne ce=ve:=by have:=congrArg (fun a:Array Value=>a[4]?) hv;simpa using this
   have e9:Value.int .i64 lo=.int .i64 sg.long:=by have:=congrArg (fun a:Array Value=>a[5]?) hv;simpa using this
   have e0:Value.bool em=.bool sg.ends.isEmpty:=by have:=congrArg (fun a:Array Value=>a[6]?) hv;simpa using this
   have e6:Value.bool tn=.bool J3:=by have:=congrArg (fun a:Array Value=>a[7]?) hv;simpa using this
   injection e1 with _ e1
   injection e2 with _ e2
   injection e3 with _ e3
   injection e9 with _ e9
   injection e0 with e0
   injection e6 with e6
   rw[<-e9,<-e0] at n7;subst e1 e2 e3 e4 e5 e6;have M5:=qZ K3;clear K3 t9;obtain⟨_,_,e7,_⟩:=aB2 n7.ents;injection e7 with x1 e7 x2
   subst x1 e7 x2;obtain⟨_,_,e8,_⟩:=Own.shape n7.ends;injection e8 with x1 e8 x2
   rw[lU] at e8;subst x1 e8 x2;have B4:Hid (∃l,aD0 ((sec RF.f es).take (k+1))=some l∧((a8.map RqR.o)++[(sg,tn)]).Perm l):=qZ (by
     obtain⟨l,q8,I9⟩:=HL.out;refine⟨l++[(sg,tn)],?_,I9.append_right _⟩;rw[n6.out l q8,if_neg h0,hrs]
     rfl)
   have D6:bS7 w4 w.heap.size ⟨sg,tn,lo,em,Al,cl,Ae,ce,rs⟩:=(bS7.of_rg n7).mono (by have:=m8.out.size;omega);have P3:=qZ e9;have O2:=qZ e0;obtain⟨q,hq⟩:∃q:RqR,q=⟨sg,tn,lo,em,Al,cl,Ae,ce,rs⟩:=⟨_,rfl⟩
   have K5:q.o=(sg,tn):=by rw[hq];rfl
   have G3:q.s.k=kn:=by rw[hq];exact M5.out
   have J4:aX4 q=[.int .i64 sg.k,.int .i64 sg.first,.int .i64 sg.term,.slice Al rs.length cl,.slice Ae sg.ends.length ce,.int .i64 lo,.bool em,.bool tn]:=by rw[hq];rfl
   have J2:q.lo=q.s.long∧q.em=q.s.ends.isEmpty:=by rw[hq];exact⟨e9,e0⟩
   rw[<-hq] at D6;have L4:=qZ K5;have s9:=qZ G3;have N8:=qZ J4;have L3:=qZ J2;have G9:=qZ D6;clear hrs C4 n7 hv HL n6 hq K5 G3 J4 J2 D6 e9 e0;have hN:a8.length<=1099511627776:=by omega
   have m9:Below w4.heap.size w4 (w4.alloc (.cells #[.int .i64 sg.k,.int .i64 sg.first,.int .i64 sg.term,.slice Al rs.length cl,.slice Ae sg.ends.length ce,.int .i64 lo,.bool em,.bool tn] 139)):=(lS _ w4).alloc (lR _) _;have t7:=Blk.new w4 139 #[.int .i64 sg.k,.int .i64 sg.first,.int .i64 sg.term,.slice Al rs.length cl,.slice Ae sg.ends.length ce,.int .i64 lo,.bool em,.bool tn];obtain⟨wA,C9⟩:∃W,W=w4.alloc (.cells #[.int .i64 sg.k,.int .i64 sg.first,.int .i64 sg.term,.slice Al rs.length cl,.slice Ae sg.ends.length ce,.int .i64 lo,.bool em,.bool tn] 139):=⟨_,rfl⟩
   rw[<-C9] at m9 t7;have L8:=qZ C9;have K4:=qZ t7;have P5:=m9.size;have B6:=t7.lt;have p9:=qZ (aE6 z9.out m9);have D5:=qZ (fun q hq=>And.intro ((t4.out q hq).1.below m9) (t4.out q hq).2);have J5:=qZ (G9.out.below m9);have x4:=qZ (m8.out.trans (m9.mono m8.out.size));clear C9 t7 m9 z9 t4 G9 m8;go_upto_block 2 with fail
   rw[<-L8.out];go_cut [9] from 47 to 61 (fun v wx=>∃m:Nat,v=.int .i64 m∧m<=a8.length∧Hid (∀j (h:j<m) (h2:j<a8.length),a8[j].s.k<kn)∧Hid (∀h:m<a8.length,kn<=a8[m].s.k)∧Hid (Below wA.heap.size wA wx))
   case first=>
     go_wp2_with fail
     go_loopw [9] (fun i wr2=>∃m:Nat,m<=a8.length∧i=.int .i64 m∧Hid (∀j (h:j<m) (h2:j<a8.length),a8[j].s.k<kn)∧Hid (Below wA.heap.size wA wr2)) (fun i _=>a8.length-(intOf i).toNat)
     case atStart=>exact⟨0,by omega,rfl,qZ (fun j h h2=>by omega),qZ (lS _ _)⟩
     obtain⟨m,hm,rfl,HM,f9⟩:=hrel;have N7:=f9.out.size;by_cases hlm:m<a8.length
     rotate_left
     · have hd:decide ((m:Int)<(a8.length:Int))=false:=decide_eq_false (by omega)
       have o8:Hid (∀h:m<a8.length,kn<=a8[m].s.k):=qZ (fun h=>absurd h hlm);go_wp2_with fail
       go_meet;exact⟨m,rfl,hm,HM,o8,f9⟩
     obtain⟨A',c',o7,_,_,h3⟩:=aB2 (aE6 p9.out f9.out);obtain⟨gr,J9,rfl,j9,d8,g8,g9,i4⟩:=h3 (by omega);injection o7 with v1 v2 v3
     subst v1 v3;clear v2 h3;have cm:wr.cell? ⟨gr,m*8,none⟩=some (.int .i64 a8[m].s.k):=i4 _ _ (aR8 a8 hlm (j:=0) (by omega));have hd:decide ((m:Int)<(a8.length:Int))=true:=decide_eq_true (by omega);obtain⟨zk,B7⟩:∃zk,zk=a8[m].s.k:=⟨_,rfl⟩
     have E8:=qZ B7;rw[<-B7] at cm;clear B7 g8 g9 i4;by_cases hz:zk<kn
     · have O1:decide (zk<kn)=true:=decide_eq_true hz
       have o8:Hid (∀j (h:j<m+1) (h2:j<a8.length),a8[j].s.k<kn):=qZ (fun j h h2=>by
         by_cases e:j=m
         · subst e
           rw[<-E8.out];exact hz
         exact HM.out j (by omega) h2)
       clear hz;go_wp2_with fail
       go_roundw
       case rel=>exact⟨m+1,by omega,by go_num,o8,f9⟩
       case measure=>simp[intOf];omega
     have O1:decide (zk<kn)=false:=decide_eq_false hz;have o8:Hid (∀h:m<a8.length,kn<=a8[m].s.k):=qZ (fun h=>by rw[<-E8.out];omega);clear hz;go_wp2_with fail
     go_meet;exact⟨m,rfl,hm,HM,o8,f9⟩
   obtain⟨m,rfl,hm,HM,M6,f9⟩:=hcut;have L7:a8.length<=cv:=by
     obtain⟨A',c',o7,h1,_,_⟩:=aB2 p9.out;injection o7 with _ _ v3
   have N7:=f9.out.size;have M2:=qZ (aE6 p9.out f9.out);have K8:=qZ (fun q hq=>And.intro ((D5.out q hq).1.below f9.out) (D5.out q hq).2);have N2:=qZ (J5.out.below f9.out);have E7:=qZ (x4.out.trans (f9.out.mono x4.out.size));have K7:=K4.out.below f9.out B6;have L6:=qZ K7;have D1:0<a8.length->∃g,Av=some ⟨g,0,none⟩∧g<wc.heap.size∧∀j u,(aD5 a8)[j]? =some u->wc.cell? ⟨g,j,none⟩=some u:=fun h0=>by
     obtain⟨A',c',o7,_,_,h3⟩:=aB2 M2.out;obtain⟨gr,J9,e,j9,d8,g8,g9,i4⟩:=h3 h0;injection o7 with v1 _ v3
     exact⟨gr,v1.trans e,d8,i4⟩
   have E6:=qZ D1;have o4:=fun h0=>(D1 h0).imp fun g h=>And.intro h.1 h.2.2
   have G7:=qZ (dK0 hm o4);have n9:=fun W:World=>bK2 (P:=Tryz.prog) Tryz.underlying92 aM2 Av a8.length cv m (by omega) (m:Int) rfl W
   have J7:=fun W:World=>bC3 (P:=Tryz.prog) Tryz.underlying92 aM2 Av a8.length cv m (by omega) (m:Int) rfl W
   clear p9 D5 J5 x4 K7 D1 o4 f9 K4;go_upto_region 15 with(at_builtin;go_must (refine aJ4 rfl (.tmp 62) (.tmp 65) 92 rfl wc.heap.size 139 (.agg #[.int .i64 0,.int .i64 0,.int .i64 0,.slice none 0 0,.slice none 0 0,.int .i64 0,.bool false,.bool false]) 8 88 Tryz.underlying92 aM2 rfl (by decide) _ 0 [] rfl (World.ownsRow_nil _ _ _ _) Av m cv (aD5 (a8.take m)) rfl (by rw[aH8,lV];omega) G7.out (bI3 _) (by unfold maxLen;omega) (by omega) (lR _) ?_;intro v6 w6 m0 I2;have K0:=qZ m0;have J0:=qZ I2;clear m0 I2))
   have p7:=Below.grown (lS wc.heap.size wc) J0.out (lR _) (fun k hk=>by cases hk);have N9:=p7.size;have L0:=L6.out.below p7 (by omega);obtain⟨a0,a1,a2,a3,a4,a5,a6,a7⟩:=aW8 L0;have p5:=K0.out;rw[Nat.zero_add,List.nil_append] at p5;obtain⟨A6,c6,N4,_,_,_⟩:=aB2 p5;subst N4;have B1:Below w6.heap.size w6 (w6.alloc (.cells #[.int .i64 sg.k,.int .i64 sg.first,.int .i64 sg.term,.slice Al rs.length cl,.slice Ae sg.ends.length ce,.int .i64 lo,.bool em,.bool tn] 139)):=(lS _ w6).alloc (lR _) _;have x5:=qZ (aE6 p5 B1);have HC:=qZ (aG0 (Blk.new w6 139 #[.int .i64 sg.k,.int .i64 sg.first,.int .i64 sg.term,.slice Al rs.length cl,.slice Ae sg.ends.length ce,.int .i64 lo,.bool em,.bool tn]));have B9:=qZ (p7.trans (B1.mono N9));clear p7 L0 K0 J0 p5 B1 G7 n9;go_upto_region 16 with(at_builtin;go_must (refine aG7 rfl (.tmp 67) (.tmp 69) 92 rfl wc.heap.size 139 (.agg #[.int .i64 0,.int .i64 0,.int .i64 0,.slice none 0 0,.slice none 0 0,.int .i64 0,.bool false,.bool false]) 8 88 Tryz.underlying92 aM2 rfl (by decide) _ m (aD5 (a8.take m)) rfl x5.out ⟨w6.heap.size,0,none⟩ 1 1 _ rfl rfl HC.out (by simp[Value.oneCell']) (by unfold maxLen;omega) (by omega) (by have:=B9.out.size;omega) ?_;intro v8 w8 m2 G5 M0;have D0:=qZ m2;have L1:=qZ G5;clear m2 G5 M0))
   have t8:=Below.grown B9.out L1.out B9.out.size (fun k hk=>(World.ownsRow.lt x5.out k hk).1);have O7:=t8.size;obtain⟨A8,c8,L2,_,_,_⟩:=aB2 D0.out;subst L2;have I8:0<a8.length->∃g,Av=some ⟨g,0,none⟩∧∀j u,(aD5 a8)[j]? =some u->w8.cell? ⟨g,j,none⟩=some u:=fun h0=>by
     obtain⟨gr,e,d8,i4⟩:=E6.out h0;exact⟨gr,e,fun j u hu=>(t8.cell (p:=⟨gr,j,none⟩) d8).trans (i4 j u hu)⟩
   have O0:=qZ (dK7 (cap:=cv) hm L7 I8);have G0:=qZ t8;clear t8 I8 E6 L1 x5 HC a0 a1 a2 a3 a4 a5 a6 a7;go_wp2_with (at_builtin;go_must (refine aJ4 rfl (.tmp 71) (.tmp 74) 92 rfl wc.heap.size 139 (.agg #[.int .i64 0,.int .i64 0,.int .i64 0,.slice none 0 0,.slice none 0 0,.int .i64 0,.bool false,.bool false]) 8 88 Tryz.underlying92 aM2 rfl (by decide) _ (m+1) _ rfl D0.out (cC2 Av m cv 8) (a8.length-m) (cv-m) (aD5 (a8.drop m)) rfl (by rw[aH8,lZ]) O0.out (bI3 _) (by unfold maxLen;omega) (by omega) (by omega) ?_;intro N6 I4 l4 o6;have C6:=qZ l4;have D4:=qZ o6;clear l4 o6))
   have l6:=Below.grown G0.out D4.out G0.out.size (fun k hk=>(World.ownsRow.lt D0.out k hk).1);have M8:=l6.size;have I0:=E7.out.size;have y8:Hid (∃l,aD0 ((sec RF.f es).take (k+1))=some l∧((bA9 a8 m q).map RqR.o).Perm l):=qZ (B4.out.imp fun l hl=>And.intro hl.1 ((((rqIns_perm a8 m q).map RqR.o).trans (by rw[mE,mG,L4.out];exact List.Perm.refl _)).trans hl.2));have x6:Hid ((bA9 a8 m q).Pairwise fun x y=>x.s.k<=y.s.k):=qZ (bZ7 HP.out hm (fun j h=>by rw[s9.out];exact HM.out j h (by omega)) (fun h=>by rw[s9.out];exact M6.out h));have C0:Hid (I4.ownsRow w.heap.size 139 8 N6 (bA9 a8 m q).length (aD5 (bA9 a8 m q))):=qZ (by
     refine aV8 (base:=wc.heap.size) ?_ I0;have h1:=C6.out;rw[bY1];unfold bA9;rw[aY0,aY0,show aD5 [q]=aX4 q from by simp[aD5],N8.out];rw[show m+1+(a8.length-m)=a8.length+1 by omega] at h1;exact h1)
   have C7:Hid (∀x∈bA9 a8 m q,bS7 I4 w.heap.size x∧(x.lo=x.s.long∧x.em=x.s.ends.isEmpty)∧1<=x.s.k∧x.s.k<=999999999):=qZ (fun x hx=>by
     rcases rqIns_mem hx with hx|rfl
     · exact⟨(K8.out x hx).1.below l6,(K8.out x hx).2⟩
     exact⟨N2.out.below l6,L3.out,by rw[s9.out];exact E9.1,by rw[s9.out];exact E9.2⟩)
   have C1:=qZ (E7.out.trans (l6.mono I0));go_roundw
   case rel=>exact⟨k+1,bA9 a8 m q,by omega,by go_num,by rw[bY1];omega,C0,y8,x6,C7,C1⟩
   case measure=>simp[intOf];omega
  obtain⟨a8,j8,HO,HL,HP,HF,HB⟩:=hcut;have f8:=HB.out.size;obtain⟨Av,cv,hv,M3,L5,hx⟩:=aB2 HO.out;subst hv;clear hx;have G8:aM4 (aJ1 p room es)=if aL1 (a8.map RqR.o)=true then some (a8.map RqR.o) else none:=by
    obtain⟨l,h1,h2⟩:=HL.out;exact bR0 (d:=aJ1 p room es) h1 h2 (by rw[List.pairwise_map];exact HP.out)
  have D9:=qZ G8;have o9:=qZ (cR0 a8 fun q hq=>(HF.out q hq).2.1.2);have hN:a8.length<=1099511627776:=by omega
  clear G8 HL HP I5 x7 H D8 G2;go_wp2_with fail
  go_loopw [11] (fun i wr=>∃k:Nat,k<=a8.length∧i=.int .i64 k∧Hid (∀j (h:j<a8.length),j<k->cU9 a8 j h)∧Hid (Below wc.heap.size wc wr)) (fun i _=>a8.length-(intOf i).toNat)
  case atStart=>exact⟨0,by omega,rfl,qZ (fun j h h0=>by omega),qZ (lS _ _)⟩
  obtain⟨k,hk,rfl,E5,n5⟩:=hrel;have l5:=n5.out.size;by_cases hlt:k<a8.length
  rotate_left
  · obtain rfl:k=a8.length:=by omega
    have p0:aM4 (aJ1 p room es)=some (a8.map RqR.o):=by
      rw[D9.out,if_pos (o9.out.2 fun j h=>E5.out j h h)]
    have HY:=qZ p0;have B2:=qZ (HB.out.trans (n5.out.mono f8));clear p0;go_wp2_with fail
    go_ret2
    refine⟨B2.out,_,by rw[HY.out];rfl,fun l h=>?_⟩;rw[HY.out] at h;injection h with h
    subst h;exact⟨a8,aE6 HO.out n5.out,rfl,fun q hq=>⟨(HF.out q hq).1.below n5.out,(HF.out q hq).2.1⟩⟩
  obtain⟨A',c',hv,_,_,h3⟩:=aB2 (aE6 HO.out n5.out);obtain⟨gr,J9,rfl,j9,d8,g8,g9,i4⟩:=h3 (by omega);injection hv with v1 v2 v3
  subst v1 v3;clear v2 h3;have d9:∀i (hi:i<a8.length) j,j<8->(aD5 a8)[i*8+j]? =(aX4 a8[i])[j]? :=fun i hi j hj=>aR8 a8 hi hj
  have ck:wr.cell? ⟨gr,k*8,none⟩=some (.int .i64 a8[k].s.k):=i4 _ _ (d9 k hlt 0 (by omega));have cm:wr.cell? ⟨gr,k*8+6,none⟩=some (.bool a8[k].em):=i4 _ _ (d9 k hlt 6 (by omega));have ct:wr.cell? ⟨gr,k*8+7,none⟩=some (.bool a8[k].tn):=i4 _ _ (d9 k hlt 7 (by omega));have I7:1<=a8[k].s.k∧a8[k].s.k<=999999999:=(HF.out a8[k] (lX hlt)).2.2;obtain⟨B,hB⟩:∃B:Bool,B=false↔cU9 a8 k hlt:=by
    by_cases hh:cU9 a8 k hlt
    · exact⟨false,by simp[hh]⟩
    exact⟨true,by simp[hh]⟩
  have b8:=qZ hB;obtain⟨ek,z8⟩:∃x,x=a8[k].s.k:=⟨_,rfl⟩
  obtain⟨tk,B8⟩:∃x,x=a8[k].tn:=⟨_,rfl⟩
  obtain⟨mk,D7⟩:∃x,x=a8[k].em:=⟨_,rfl⟩
  have i6:=qZ z8;have f7:=qZ B8;have f6:=qZ D7;rw[<-z8] at ck I7;rw[<-B8] at ct;rw[<-D7] at cm;have j6:=qZ i4;clear z8 B8 D7 hB i4;go_upto_region 20 with fail
  go_cut [119] from 82 to 119 (fun c wx=>c=.bool B∧Hid (Below wr.heap.size wr wx))
  case first=>
    by_cases hk0:0<k
    rotate_left
    · have M9:decide (0<k)=false:=decide_eq_false hk0
      by_cases h1:k+1<a8.length
      rotate_left
      · have hd:decide ((k:Int)<(a8.length:Int)-1)=false:=decide_eq_false (by omega)
        have a9:Hid (B=false):=qZ (b8.out.2 ⟨fun h0=>absurd h0 hk0,fun h=>absurd h h1⟩);clear b8 d9 j6 i6 f7 f6 g8 g9 d8 j9 l5 f8 j8 hl l7 l8;go_big_quiet (fail)
        go_wp2_with fail
        go_meet;exact⟨by first|(rw[a9.out];done)|(rw[a9.out];rfl),qZ (aA3 (lS _ _) _)⟩
      have hd:decide ((k:Int)<(a8.length:Int)-1)=true:=decide_eq_true (by omega);cases tk with
      |true=>
        have a9:Hid (B=true):=qZ (by
          cases B with
          |true=>rfl
          |false=>
            have:=((b8.out.1 rfl).2 h1).1;rw[<-f7.out] at this;cases this)
        clear b8 d9 j6 i6 f7 f6 g8 g9 d8 j9 l5 f8 j8 hl l7 l8;go_big_quiet (fail)
        go_wp2_with fail
        go_meet;exact⟨by first|(rw[a9.out];done)|(rw[a9.out];rfl),qZ (aA3 (lS _ _) _)⟩
      |false=>
        cases mk with
        |true=>
          have a9:Hid (B=true):=qZ (by
            cases B with
            |true=>rfl
            |false=>
              have:=((b8.out.1 rfl).2 h1).2;rw[<-f6.out] at this;cases this)
          clear b8 d9 j6 i6 f7 f6 g8 g9 d8 j9 l5 f8 j8 hl l7 l8;go_big_quiet (fail)
          go_wp2_with fail
          go_meet;exact⟨by first|(rw[a9.out];done)|(rw[a9.out];rfl),qZ (aA3 (lS _ _) _)⟩
        |false=>
          have a9:Hid (B=false):=qZ (b8.out.2 ⟨fun h0=>absurd h0 hk0,fun _=>⟨f7.out.symm,f6.out.symm⟩⟩);clear b8 d9 j6 i6 f7 f6 g8 g9 d8 j9 l5 f8 j8 hl l7 l8;go_big_quiet (fail)
          go_wp2_with fail
          go_meet;exact⟨by first|(rw[a9.out];done)|(rw[a9.out];rfl),qZ (aA3 (lS _ _) _)⟩
    have M9:decide (0<k)=true:=decide_eq_true hk0;obtain⟨j,hj⟩:∃j,k=j+1:=⟨k-1,by omega⟩
    have I3:j<a8.length:=by omega
    have cj:wr.cell? ⟨gr,j*8,none⟩=some (.int .i64 a8[j].s.k):=j6.out _ _ (d9 j I3 0 (by omega));have N0:1<=a8[j].s.k∧a8[j].s.k<=999999999:=(HF.out a8[j] (lX I3)).2.2;have m5:(a8[k-1]'(by omega)).s.k=a8[j].s.k:=by
      have e:k-1=j:=by omega
      simp only[e]
    have m7:=qZ m5;obtain⟨ej,C8⟩:∃x,x=a8[j].s.k:=⟨_,rfl⟩
    have HJ:=qZ C8;rw[<-C8] at cj N0;have P8:wr.cell? ⟨gr,(j+1)*8,none⟩=some (.int .i64 ek):=by rw[<-hj];exact ck
    have P2:wr.cell? ⟨gr,(j+1)*8+6,none⟩=some (.bool mk):=by rw[<-hj];exact cm
    have P4:wr.cell? ⟨gr,(j+1)*8+7,none⟩=some (.bool tk):=by rw[<-hj];exact ct
    clear C8 m5;by_cases h2:ek=ej+1
    rotate_left
    · have N5:(ek !=ej+1)=true:=bne_iff_ne.2 h2
      have a9:Hid (B=true):=qZ (by
        cases B with
        |true=>rfl
        |false=>
          have:=(b8.out.1 rfl).1 hk0;rw[m7.out,<-HJ.out,<-i6.out] at this;exact absurd this h2)
      clear h2 b8 d9 j6 i6 f7 f6 m7 HJ g8 g9 d8 j9 l5 f8 j8 hl l7 l8;go_big_quiet (fail)
      go_wp2_with fail
      go_meet;exact⟨by first|(rw[a9.out];done)|(rw[a9.out];rfl),qZ (aA3 (lS _ _) _)⟩
    have H2:Hid (∀h0:0<k,a8[k].s.k=(a8[k-1]'(by omega)).s.k+1):=qZ (fun h0=>by rw[m7.out,<-HJ.out,<-i6.out];exact h2);have N5:(ek !=ej+1)=false:=by rw[bne_eq_false_iff_eq];exact h2
    clear h2;by_cases h1:k+1<a8.length
    rotate_left
    · have hd:decide ((k:Int)<(a8.length:Int)-1)=false:=decide_eq_false (by omega)
      have N3:decide ((j:Int)+1<(a8.length:Int)-1)=false:=decide_eq_false (by omega);have a9:Hid (B=false):=qZ (b8.out.2 ⟨H2.out,fun h=>absurd h h1⟩);clear b8 d9 j6 i6 f7 f6 m7 HJ H2 g8 g9 d8 j9 l5 f8 j8 hl l7 l8;go_big_quiet (fail)
      go_wp2_with fail
      go_meet;exact⟨by first|(rw[a9.out];done)|(rw[a9.out];rfl),qZ (aA3 (lS _ _) _)⟩
    have hd:decide ((k:Int)<(a8.length:Int)-1)=true:=decide_eq_true (by omega);have N3:decide ((j:Int)+1<(a8.length:Int)-1)=true:=decide_eq_true (by omega);cases tk with
    |true=>
      have a9:Hid (B=true):=qZ (by
        cases B with
        |true=>rfl
        |false=>
          have:=((b8.out.1 rfl).2 h1).1;rw[<-f7.out] at this;cases this)
      clear b8 d9 j6 i6 f7 f6 m7 HJ H2 g8 g9 d8 j9 l5 f8 j8 hl l7 l8;go_big_quiet (fail)
      go_wp2_with fail
      go_meet;exact⟨by first|(rw[a9.out];done)|(rw[a9.out];rfl),qZ (aA3 (lS _ _) _)⟩
    |false=>
      cases mk with
      |true=>
        have a9:Hid (B=true):=qZ (by
          cases B with
          |true=>rfl
          |false=>
            have:=((b8.out.1 rfl).2 h1).2;rw[<-f6.out] at this;cases this)
        clear b8 d9 j6 i6 f7 f6 m7 HJ H2 g8 g9 d8 j9 l5 f8 j8 hl l7 l8;go_big_quiet (fail)
        go_wp2_with fail
        go_meet;exact⟨by first|(rw[a9.out];done)|(rw[a9.out];rfl),qZ (aA3 (lS _ _) _)⟩
      |false=>
        have a9:Hid (B=false):=qZ (b8.out.2 ⟨H2.out,fun _=>⟨f7.out.symm,f6.out.symm⟩⟩);clear b8 d9 j6 i6 f7 f6 m7 HJ H2 g8 g9 d8 j9 l5 f8 j8 hl l7 l8;go_big_quiet (fail)
        go_wp2_with fail
        go_meet;exact⟨by first|(rw[a9.out];done)|(rw[a9.out];rfl),qZ (aA3 (lS _ _) _)⟩
  obtain⟨rfl,HW⟩:=hcut;have K6:=qZ (n5.out.trans (HW.out.mono l5));clear ck cm ct i6 f7 f6 j6 g8 g9 d9;cases B with
  |true=>
    have G4:aM4 (aJ1 p room es)=none:=by
      rw[D9.out,if_neg];intro h;have:=b8.out.2 (o9.out.1 h k hlt);cases this
    have o5:=qZ G4;have B2:=qZ (HB.out.trans (K6.out.mono f8));clear G4;go_wp2_with fail
    go_ret2
    exact⟨B2.out,_,by rw[o5.out];rfl,fun l h=>by rw[o5.out] at h;cases h⟩
  |false=>
    have C5:Hid (∀j (h:j<a8.length),j<k+1->cU9 a8 j h):=qZ (fun j h h0=>by
      by_cases e:j=k
      · subst e
        exact b8.out.1 rfl
      exact E5.out j h (by omega))
    go_wp2_with fail
    go_roundw
    case rel=>exact⟨k+1,by omega,by go_num,C5,K6⟩
    case measure=>simp[intOf];omega
end
section
open Go.RowKit Go.Maps Oct
section
variable{w w' :World}{F F' :Nat->Prop}{q:RqR}
theorem cZ7.keep(h:cZ7 w F q)(hs:w.heap.size<=w'.heap.size)(hk:∀k,F k->w'.heap[k]? =w.heap[k]?):cZ7 w' F q:=
 ⟨h.num,h.cap,h.ents.keep hs hk,h.map,fun x hx=>by obtain⟨A,c,e,h1,h2,h3⟩:=h.dat x hx;exact⟨A,c,e,h1,h2,h3.keep hs hk⟩,h.ends.keep hs hk,h.lo,h.em⟩
theorem cZ7.mono(h:cZ7 w F q)(hF:∀k,F k->F' k):cZ7 w F' q:=
 ⟨h.num,h.cap,h.ents.mono hF,h.map,fun x hx=>by obtain⟨A,c,e,h1,h2,h3⟩:=h.dat x hx;exact⟨A,c,e,h1,h2,h3.mono hF⟩,h.ends.mono hF,h.lo,h.em⟩
theorem bS7.rd{B:Nat}(h:bS7 w B q)(hn:aZ8 q.s)(a9:q.lo=q.s.long)(a8:q.em=q.s.ends.isEmpty)(hF:∀k,B<=k->k<w.heap.size->F k):cZ7 w F q:=by
 obtain⟨A1,c1,e1,k1,k2,_⟩:=aB2 h.ents;obtain⟨A2,c2,e2,k3,k4,_⟩:=Own.shape h.ends;unfold RqR.vl at e1;unfold RqR.ve at e2;injection e1 with _ _ e1
 injection e2 with _ e3 e2
 rw[lU] at k3 e3;exact⟨hn,⟨by rw[e1];exact k1,by rw[e1];unfold maxLen;omega,by rw[e2];exact k3,by rw[e2];exact k4⟩,RdF.of_row h.ents hF (by rw[aC3];omega),h.map,fun x hx=>(h.dat x hx).datF hF,RdF.of_own h.ends hF,a9,a8⟩
end
structure bS6(w:World)(F:Nat->Prop)(gj g:Nat)(j:JnP):Prop where
 at_:∃A c recs,Blk w gj 94 #[.pointer (some ⟨g,0,none⟩),.int .i64 j.term,.int .i64 j.vote,.slice A (recs:List RqR).length c,.int .i64 j.bad]∧(recs.length<=c∧c<=maxLen)∧RdF w F A (aD5 recs)∧recs.map RqR.s=j.segs∧∀q∈recs,cZ7 w F q∧q.s.l.length<=4611686018427387904
 len:j.segs.length<=1099511627776
 num:(-9223372036854775808<=j.term∧j.term<=9223372036854775807)∧(-9223372036854775808<=j.vote∧j.vote<=9223372036854775807)
section
variable{w w' :World}{F F' :Nat->Prop}{gj g:Nat}{j:JnP}
theorem bS6.keep(h:bS6 w F gj g j)(hs:w.heap.size<=w'.heap.size)(hk:∀k,F k->w'.heap[k]? =w.heap[k]?)(hg:w'.heap[gj]? =w.heap[gj]?):bS6 w' F gj g j:=by
 obtain⟨⟨A,c,a8,h1,h2,h3,h4,h5⟩,h6,h7⟩:=h;exact⟨⟨A,c,a8,hg.trans h1,h2,h3.keep hs hk,h4,fun q hq=>⟨(h5 q hq).1.keep hs hk,(h5 q hq).2⟩⟩,h6,h7⟩
theorem bS6.mono(h:bS6 w F gj g j)(hF:∀k,F k->F' k):bS6 w F' gj g j:=by
 obtain⟨⟨A,c,a8,h1,h2,h3,h4,h5⟩,h6,h7⟩:=h;exact⟨⟨A,c,a8,h1,h2,h3.mono hF,h4,fun q hq=>⟨(h5 q hq).1.mono hF,(h5 q hq).2⟩⟩,h6,h7⟩
theorem bS6.lt(h:bS6 w F gj g j):gj<w.heap.size:=by
 obtain⟨⟨A,c,a8,h1,_⟩,_⟩:=h;exact h1.lt
theorem bS6.below(h:bS6 w F gj g j)(hF:∀k,F k->k<w.heap.size)(hb:Below w.heap.size w w'):bS6 w' F gj g j:=h.keep hb.size (fun k hk=>hb.block k (hF k hk)) (hb.block gj h.lt)
theorem bS6.base(h:bS6 w F gj g j):Calls Tryz.prog 41 #[.pointer (some ⟨gj,0,none⟩)] w fun e w' =>e=.returned (.tuple #[.int .i64 j.base.1,.int .i64 j.base.2])∧Below w.heap.size w w' :=by
 obtain⟨⟨A,c,b8,h1,h2,h3,h4,h5⟩,h6,_⟩:=h;have c3:w.cell? ⟨gj,3,none⟩=some (.slice A b8.length c):=h1.cell 3;clear h1;unfold JnP.base;rw[<-h4];rcases b8 with _|⟨q,r⟩
 ·clear h2 h3 h4 h5 h6
  simp only[List.length_nil] at c3;go_enter Tryz.func41,Tryz.ntmps41
  go_wp2_with fail
  go_ret2
  exact⟨rfl,lS _ w⟩
 obtain⟨ab,ao,rfl,_,f7,d9⟩:=h3 (by rw[aH8];simp);have d1:w.cell? ⟨ab,ao+1,none⟩=some (.int .i64 q.s.first):=d9 1 _ rfl;have d2:w.cell? ⟨ab,ao+2,none⟩=some (.int .i64 q.s.term):=d9 2 _ rfl;have f6:=(h5 q (by simp)).1.num.first;obtain⟨nl,d8⟩:∃n,n=(q::r).length:=⟨_,rfl⟩
 have f9:0<nl:=by rw[d8];simp
 rw[<-d8] at c3;have f8:((nl:Int)==0)=false:=by simp;omega
 obtain⟨fi,a9⟩:∃x,x=q.s.first:=⟨_,rfl⟩
 obtain⟨tm,a8⟩:∃x,x=q.s.term:=⟨_,rfl⟩
 rw[<-a9] at d1 f6;rw[<-a8] at d2;simp only[mG];rw[<-a9,<-a8];clear h2 h3 h4 h5 h6 d9 d8 a9 a8;have hw:IntKind.i64.wrap (fi-1)=fi-1:=mH _ (by omega);go_enter Tryz.func41,Tryz.ntmps41
 go_wp2_with fail
 go_quiet (fail);go_wp2_with fail
 go_ret2
 exact⟨rfl,aA3 (lS _ w) _⟩
theorem bS6.last(h:bS6 w F gj g j):Calls Tryz.prog 42 #[.pointer (some ⟨gj,0,none⟩)] w fun e w' =>e=.returned (.tuple #[.int .i64 j.last.1,.int .i64 j.last.2])∧Below w.heap.size w w' :=by
 obtain⟨⟨A,c,f6,h1,h2,h3,h4,h5⟩,h6,_⟩:=h;have c3:w.cell? ⟨gj,3,none⟩=some (.slice A f6.length c):=h1.cell 3;clear h1;have d8:f6.length=j.segs.length:=by rw[<-h4,lU]
 unfold JnP.last;rw[<-h4];rcases mJ f6 with rfl|⟨r,q,rfl⟩
 ·clear h2 h3 h4 h5 h6 d8
  simp only[List.length_nil] at c3;go_enter Tryz.func42,Tryz.ntmps42
  go_wp2_with fail
  go_ret2
  exact⟨rfl,lS _ w⟩
 rw[mA] at h3 h5;rw[mA] at d8;simp only[mA,lT,mC,List.length_nil,Nat.zero_add,mE,mG,List.map_nil,List.getLast?_append,List.getLast?_singleton,Option.some_or] at c3 d8⊢;obtain⟨hR,f8⟩:=h5 q (by simp);obtain⟨ab,ao,rfl,_,d9,b8⟩:=h3 (by rw[aH8];simp);have a8:∀i,i<8->(aD5 (r++[q]))[r.length*8+i]? =(aX4 q)[i]? :=fun i hi=>by
  rw[aR8 _ (k:=r.length) (by simp) hi];simp
 have e0:=b8 (r.length*8+0) _ (a8 0 (by omega));have e1:=b8 (r.length*8+1) _ (a8 1 (by omega));have e2:=b8 (r.length*8+2) _ (a8 2 (by omega));have e3:=b8 (r.length*8+3) _ (a8 3 (by omega));have e4:=b8 (r.length*8+4) _ (a8 4 (by omega));have e5:=b8 (r.length*8+5) _ (a8 5 (by omega));have e6:=b8 (r.length*8+6) _ (a8 6 (by omega));have e7:=b8 (r.length*8+7) _ (a8 7 (by omega));have f7:=qZ (fun n=>(hR.keep (w' :=w.drewN n) (lR _) (fun _ _=>rfl)).last f8);obtain⟨s,tn,lo,em,al,cl,ae,ce,rs⟩:=q;unfold RqR.vl RqR.ve at f7;simp only[RqR.vl,RqR.ve] at e3 e4 f7⊢;obtain⟨n,hn⟩:∃n,n=r.length:=⟨_,rfl⟩
 rw[<-hn] at c3 e0 e1 e2 e3 e4 e5 e6 e7;have d0:w.cell? ⟨ab,ao+n*8,none⟩=some (.int .i64 s.k):=by simpa[Nat.add_assoc] using e0
 have d1:w.cell? ⟨ab,ao+n*8+1,none⟩=some (.int .i64 s.first):=by simpa[Nat.add_assoc] using e1
 have d2:w.cell? ⟨ab,ao+n*8+2,none⟩=some (.int .i64 s.term):=by simpa[Nat.add_assoc] using e2
 have d3:w.cell? ⟨ab,ao+n*8+3,none⟩=some (.slice al rs.length cl):=by simpa[Nat.add_assoc] using e3
 have d4:w.cell? ⟨ab,ao+n*8+4,none⟩=some (.slice ae s.ends.length ce):=by simpa[Nat.add_assoc] using e4
 have d5:w.cell? ⟨ab,ao+n*8+5,none⟩=some (.int .i64 lo):=by simpa[Nat.add_assoc] using e5
 have d6:w.cell? ⟨ab,ao+n*8+6,none⟩=some (.bool em):=by simpa[Nat.add_assoc] using e6
 have d7:w.cell? ⟨ab,ao+n*8+7,none⟩=some (.bool tn):=by simpa[Nat.add_assoc] using e7
 have i6:n<=1099511627776:=by omega
 have g9:(((n+1:Nat):Int)==0)=false:=by simp;omega
 have hw:IntKind.i64.wrap (((n+1:Nat):Int)-1)=(n:Int):=by rw[mH _ (by omega)];omega
 have g8:((n+1:Nat):Int)-1=(n:Int):=by omega
 have j6:IntKind.i64.wrap (n:Int)=(n:Int):=mH _ (by omega);have i4:0<=(n:Int)∧(n:Int)<(n:Int)+1:=by omega
 clear h2 h3 h4 h5 h6 b8 a8 d8 hR f8 hn e0 e1 e2 e3 e4 e5 e6 e7;go_enter Tryz.func42,Tryz.ntmps42
 go_wp2_with fail
 refine wp_region_held_drew (S:=fun W=>W.cell? ⟨gj,3,none⟩=some (.slice (some ⟨ab,ao,none⟩) (n+1) c)∧W.cell? ⟨ab,ao+n*8,none⟩=some (.int .i64 s.k)∧W.cell? ⟨ab,ao+n*8+1,none⟩=some (.int .i64 s.first)∧W.cell? ⟨ab,ao+n*8+2,none⟩=some (.int .i64 s.term)∧W.cell? ⟨ab,ao+n*8+3,none⟩=some (.slice al rs.length cl)∧W.cell? ⟨ab,ao+n*8+4,none⟩=some (.slice ae s.ends.length ce)∧W.cell? ⟨ab,ao+n*8+5,none⟩=some (.int .i64 lo)∧W.cell? ⟨ab,ao+n*8+6,none⟩=some (.bool em)∧W.cell? ⟨ab,ao+n*8+7,none⟩=some (.bool tn)) (by kernel_rfl) ⟨c3,d0,d1,d2,d3,d4,d5,d6,d7⟩ (fun hHeld=>?_);refine zT 0 (k:=?_);refine zT 1 (k:=?_);refine zT 2 (k:=?_);refine zT 3 (k:=?_);refine zT 4 (k:=?_);refine zT 5 (k:=?_);refine zT 6 (k:=?_);refine zT 7 (k:=?_);refine zT 8 (k:=?_);refine zT 9 (k:=?_);refine zT 10 (k:=?_);refine zT9 11 (k:=?_);simp only[zA,zB,zF,zG,zC,zD,zE];refine zV 12 (k:=fun K hK=>?_);simp only[zA,zB];go_simp;refine(show Calls _ _ _ w.drew _ from f7.out 1).mono ?_;rintro e w1 ⟨rfl,f9⟩;have a9:Below w.heap.size w w1:=((lS _ w).drew).trans f9;have HB:=qZ a9;have k3:w1.cell? ⟨gj,3,none⟩=_:=(a9.cell (p:=⟨gj,3,none⟩) (mI w ⟨gj,3,none⟩ c3)).trans c3;have y0:w1.cell? ⟨ab,ao+n*8,none⟩=_:=(a9.cell (p:=⟨ab,ao+n*8,none⟩) d9).trans d0;have y1:w1.cell? ⟨ab,ao+n*8+1,none⟩=_:=(a9.cell (p:=⟨ab,ao+n*8+1,none⟩) d9).trans d1;have y2:w1.cell? ⟨ab,ao+n*8+2,none⟩=_:=(a9.cell (p:=⟨ab,ao+n*8+2,none⟩) d9).trans d2;have y3:w1.cell? ⟨ab,ao+n*8+3,none⟩=_:=(a9.cell (p:=⟨ab,ao+n*8+3,none⟩) d9).trans d3
 have y4:w1.cell? ⟨ab,ao+n*8+4,none⟩=_:=(a9.cell (p:=⟨ab,ao+n*8+4,none⟩) d9).trans d4;have y5:w1.cell? ⟨ab,ao+n*8+5,none⟩=_:=(a9.cell (p:=⟨ab,ao+n*8+5,none⟩) d9).trans d5;have y6:w1.cell? ⟨ab,ao+n*8+6,none⟩=_:=(a9.cell (p:=⟨ab,ao+n*8+6,none⟩) d9).trans d6;have y7:w1.cell? ⟨ab,ao+n*8+7,none⟩=_:=(a9.cell (p:=⟨ab,ao+n*8+7,none⟩) d9).trans d7;refine hK.out _ _ ⟨k3,y0,y1,y2,y3,y4,y5,y6,y7⟩ (fun hHeld=>?_);clear hK K f9 a9;try simp only[zF,zG,zC,zD,zE]
 refine zT 13 (k:=?_);refine zT 14 (k:=?_);refine zT 15 (k:=?_);refine zT 16 (k:=?_);simp only[zA,zB,zF,zG,zC,zD,zE];refine wpAnyH_done (by kernel_rfl) ?_ _;go_wp2_with fail
 go_ret2
 exact⟨rfl,HB.out⟩
end
end
section
open Go.RowKit Oct
theorem aB0.not_foot{w:World}{base g:Nat}{p:PWD}{room:Int}{vL:Value}{es:List (Nm×RF)}(h:aB0 w base g p room vL es){b:Nat}{T:TypeId}{cs:Array Value}(hB:Blk w b T cs)(h1:T≠74)(h2:T≠85)(h3:T≠5):¬aC1 g vL es b:=by
 obtain⟨x,y,hb,_⟩:=h.blk;rintro(e|e|⟨q,hq,e⟩)
 ·exact blk_ne hB hb h1 e
 ·exact aS0 h.own hB h2 e
 exact aF0 (h.got q hq) hB h3 e
structure aS4(w:World)(base g:Nat)(vL:Value)(es:List (Nm×RF))(gj:Nat)(d:DkD)(t v:Int)(sv:Value)(bad:Int)(wx:World)(vL' :Value)(es' :List (Nm×RF)):Prop where
 disk:aB0 wx base g d.pw d.room vL' es'
 fs:sec RF.f es' =d.fs
 jb:Blk wx gj 94 #[.pointer (some ⟨g,0,none⟩),.int .i64 t,.int .i64 v,sv,.int .i64 bad]
 fr:Fr (aC1 g vL es) w wx
 grow:∀k,aC1 g vL' es' k->aC1 g vL es k∨w.heap.size<=k
 lo:w.heap.size<=gj
section
variable{w wx wy:World}{base g gj:Nat}{vL vL' :Value}{es es' :List (Nm×RF)}{d d' :DkD}{t v:Int}{sv:Value}{bad bad' :Int}
theorem aS4.below(h:aS4 w base g vL es gj d t v sv bad wx vL' es')(hb:Below wx.heap.size wx wy):aS4 w base g vL es gj d t v sv bad wy vL' es' :=
 ⟨h.disk.below hb,h.fs,h.jb.below hb h.jb.lt,h.fr.trans (Fr.of_below (aC1 g vL es) hb) (fun j hj=>.inl hj),h.grow,h.lo⟩
theorem aS4.nj(h:aS4 w base g vL es gj d t v sv bad wx vL' es'):¬aC1 g vL' es' gj:=h.disk.not_foot h.jb (by decide) (by decide) (by decide)
theorem aS4.acted(h:aS4 w base g vL es gj d t v sv bad wx vL' es')(a9:RTo wx base g vL' es' d' wy):∃a8 es2,aS4 w base g vL es gj d' t v sv bad wy a8 es2∧(∀k,aC1 g a8 es2 k->aC1 g vL' es' k∨wx.heap.size<=k)∧Fr (aC1 g vL' es') wx wy:=by
 obtain⟨a8,es2,h1,h2,h3,h4⟩:=a9;have b8:=h.fr.size;refine⟨a8,es2,⟨h1,h2,h3.blk_ h.jb h.nj,h.fr.trans h3 (fun j hj=>h.grow j hj),fun k hk=>?_,h.lo⟩,h4,h3⟩;rcases h4 k hk with h6|h6
 ·exact h.grow k h6
 exact .inr (by omega)
theorem aS4.put{t' v' :Int}{sv' :Value}(h:aS4 w base g vL es gj d t v sv bad wx vL' es')(hg:wx.grownBy wy (some gj))(hB:Blk wy gj 94 #[.pointer (some ⟨g,0,none⟩),.int .i64 t',.int .i64 v',sv',.int .i64 bad']):aS4 w base g vL es gj d t' v' sv' bad' wy vL' es' :=by
 have a8:=h.lo;exact⟨h.disk.keep hg.size (fun k hk=>hg.block k (h.disk.lt k hk).2 (fun e=>by injection e with e;subst e;exact h.nj hk)),h.fs,hB,h.fr.trans (Fr.of_grown (mine:=fun k=>k=gj) hg (fun k e=>by injection e with e;exact e.symm)) (fun j hj=>.inr (by omega)),h.grow,h.lo⟩
theorem aS4.did(h:aS4 w base g vL es gj d t v sv 0 wx vL' es')(e:Int):aS4 w base g vL es gj d t v sv e (wx.setCell ⟨gj,4,none⟩ (.int .i64 e)) vL' es' :=
 h.put (aA0 wx gj 4 _) (by have:=h.jb.set_ 4 (.int .i64 e);simpa using this)
theorem aS4.rm(h:aS4 w base g vL es gj d t v sv bad wx vL' es')(n:Nm)(hl:es'.length<=549755813888):
  Calls Tryz.prog 85 #[.pointer (some ⟨g,0,none⟩),.string (str n)] wx fun e w' =>e=.returned (.int .i64 (d.remove n).1)∧∃vL2 es2,aS4 w base g vL es gj (d.remove n).2 t v sv bad w' vL2 es2∧(∀k,aC1 g vL2 es2 k->aC1 g vL' es' k∨wx.heap.size<=k)∧Fr (aC1 g vL' es') wx w' :=by
 refine(cF1 h.disk n (by omega)).mono ?_;rintro e w' ⟨rfl,h1⟩;rw[show aJ1 d.pw d.room es' =d by rw[show aJ1 d.pw d.room es' =⟨d.pw,d.room,sec RF.f es'⟩ from rfl,h.fs]] at*;exact⟨rfl,h.acted h1⟩
theorem aS4.cut(h:aS4 w base g vL es gj d t v sv bad wx vL' es')(n:Nm)(z:Int)(hz:-9223372036854775808<=z∧z<=9223372036854775807)(hl:es'.length<=549755813888):
  Calls Tryz.prog 76 #[.pointer (some ⟨g,0,none⟩),.string (str n),.int .i64 z] wx fun e w' =>e=.returned (.int .i64 (d.cutF n z).1)∧∃vL2 es2,aS4 w base g vL es gj (d.cutF n z).2 t v sv bad w' vL2 es2∧(∀k,aC1 g vL2 es2 k->aC1 g vL' es' k∨wx.heap.size<=k)∧Fr (aC1 g vL' es') wx w' :=by
 refine(dB9 h.disk n z hz (by omega)).mono ?_;rintro e w' ⟨rfl,h1⟩;rw[show aJ1 d.pw d.room es' =d by rw[show aJ1 d.pw d.room es' =⟨d.pw,d.room,sec RF.f es'⟩ from rfl,h.fs]] at*;exact⟨rfl,h.acted h1⟩
theorem aS4.sync(h:aS4 w base g vL es gj d t v sv bad wx vL' es')(n:Nm)(hl:es'.length<=549755813888):
  Calls Tryz.prog 90 #[.pointer (some ⟨g,0,none⟩),.string (str n)] wx fun e w' =>e=.returned (.int .i64 (d.sync n).1)∧∃vL2 es2,aS4 w base g vL es gj (d.sync n).2 t v sv bad w' vL2 es2∧(∀k,aC1 g vL2 es2 k->aC1 g vL' es' k∨wx.heap.size<=k)∧Fr (aC1 g vL' es') wx w' :=by
 refine(cY2 h.disk n (by omega)).mono ?_;rintro e w' ⟨rfl,h1⟩;rw[show aJ1 d.pw d.room es' =d by rw[show aJ1 d.pw d.room es' =⟨d.pw,d.room,sec RF.f es'⟩ from rfl,h.fs]] at*;exact⟨rfl,h.acted h1⟩
end
def bS8(w:World)(base g:Nat)(vL:Value)(es:List (Nm×RF))(r:Int×Option JnP×DkD)(e:Ending)(w' :World):Prop:=
 ∃vL' es',aB0 w' base g r.2.2.pw r.2.2.room vL' es' ∧sec RF.f es' =r.2.2.fs∧Fr (aC1 g vL es) w w' ∧(∀k,aC1 g vL' es' k->aC1 g vL es k∨w.heap.size<=k)∧
  match r.2.1 with
  |none=>e=.returned (.tuple #[.pointer none,.int .i64 r.1])
  |some j=>∃(gj:Nat) (F:Nat->Prop),e=.returned (.tuple #[.pointer (some ⟨gj,0,none⟩),.int .i64 r.1])∧w.heap.size<=gj∧bS6 w' F gj g j∧∀k,F k->w.heap.size<=k∧k<w'.heap.size∧k≠gj∧¬aC1 g vL' es' k
theorem aS4.endNone{w wx:World}{base g gj:Nat}{vL vL' :Value}{es es' :List (Nm×RF)}{d:DkD}{t v:Int}{sv:Value}{bad:Int}(h:aS4 w base g vL es gj d t v sv bad wx vL' es')(c:Int){r:Int×Option JnP×DkD}(hr:r=(c,none,d)):bS8 w base g vL es r (.returned (.tuple #[.pointer none,.int .i64 c])) wx:=by
 subst hr;exact⟨vL',es',h.disk,h.fs,h.fr,h.grow,rfl⟩
structure cB7(w:World)(F:Nat->Prop)(A:Option Addr)(c:Nat)(recs:List RqR):Prop where
 row:RdF w F A (aD5 recs)
 cap:recs.length<=c∧c<=maxLen
 rd:∀q∈recs,cZ7 w F q
section
variable{w w' :World}{F F' :Nat->Prop}{A:Option Addr}{c:Nat}{recs:List RqR}
theorem cB7.keep(h:cB7 w F A c recs)(hs:w.heap.size<=w'.heap.size)(hk:∀k,F k->w'.heap[k]? =w.heap[k]?):cB7 w' F A c recs:=⟨h.row.keep hs hk,h.cap,fun q hq=>(h.rd q hq).keep hs hk⟩
theorem cB7.take(h:cB7 w F A c recs){n:Nat}(hn:n<=recs.length):cB7 w F A c (recs.take n):=by
 refine⟨?_,⟨by rw[lV];have:=h.cap;omega,h.cap.2⟩,fun q hq=>h.rd q (List.mem_of_mem_take hq)⟩;rw[<-bF2];exact h.row.take _
theorem cB7.at_(h:cB7 w F A c recs){i:Nat}(hi:i<recs.length):∃ab ao,A=some ⟨ab,ao,none⟩∧F ab∧ab<w.heap.size∧∀j u,(aX4 recs[i])[j]? =some u->w.cell? ⟨ab,ao+i*8+j,none⟩=some u:=by
 obtain⟨ab,ao,e,hF,a8,hc⟩:=h.row (by rw[aH8];omega);refine⟨ab,ao,e,hF,a8,fun j u hu=>?_⟩;have hj:j<8:=by
  have:=(List.getElem?_eq_some_iff.1 hu).1
  simpa[aX4] using this
 rw[Nat.add_assoc];exact hc _ u ((aR8 recs hi hj).trans hu)
end
theorem aS4.endSome{w wy:World}{base g gj:Nat}{vL vL3:Value}{es es3:List (Nm×RF)}{d3:DkD}{mt mv:Int}{A:Option Addr}{c ls:Nat}{F:Nat->Prop}{recs:List RqR}{st:Nat}(g8:st<=recs.length)(f7:ls=recs.length-st)(h:aS4 w base g vL es gj d3 mt mv (.slice (cC2 A st c 8) ls (c-st)) 0 wy vL3 es3)(hL:cB7 wy F A c recs)(hn:recs.length<=1000000000)(f6:∀q∈recs,q.s.l.length<=4611686018427387904)
  (a8:(-9223372036854775808<=mt∧mt<=9223372036854775807)∧(-9223372036854775808<=mv∧mv<=9223372036854775807)) (hF:∀k,F k->w.heap.size<=k∧k<wy.heap.size∧k≠gj∧¬aC1 g vL3 es3 k) {r:Int×Option JnP×DkD} (hr:r=(0,some ⟨mt,mv,(recs.map RqR.s).drop st,0⟩,d3)):
  bS8 w base g vL es r (.returned (.tuple #[.pointer (some ⟨gj,0,none⟩),.int .i64 0])) wy:=by
 subst hr;subst f7;refine⟨vL3,es3,h.disk,h.fs,h.fr,h.grow,gj,F,rfl,h.lo,?_,hF⟩;have f9:=hL.cap;have a9:(recs.drop st).length=recs.length-st:=lZ;refine⟨⟨cC2 A st c 8,c-st,recs.drop st,?_,⟨by omega,by omega⟩,?_,?_,fun q hq=>⟨hL.rd q (List.mem_of_mem_drop hq),f6 q (List.mem_of_mem_drop hq)⟩⟩,?_,a8⟩
 ·rw[a9]
  exact h.jb
 ·intro h0
  rw[aH8,a9] at h0;obtain⟨ab,ao,rfl,b8,d8,f8⟩:=hL.row (by rw[aH8];omega);have d9:c≠st:=by omega
  refine⟨ab,ao+st*8,by unfold cC2;rw[if_neg d9];simp[Addr.add],b8,d8,fun j u hu=>?_⟩;rw[<-bF5,List.getElem?_drop] at hu;rw[Nat.add_assoc];exact f8 _ u hu
 ·rw[List.map_drop]
 show((recs.map RqR.s).drop st).length<=_
 rw[lZ,lU];omega
end
section
open Go.RowKit Go.Maps Oct
theorem cA6{F:Nat->Prop}(A:Option Addr)(rs:List aF2)(c:Nat)(w:World)(hr:RdF w F A (aA7 rs))(hd:∀q∈rs,bF9 w F q.v q.e.b)(hF:∀k,F k->k<w.heap.size)(hn:rs.length<=1099511627776)(hl:∀q∈rs,q.e.b.length<=1099511627776)(hc:rs.length<=c∧c<=maxLen):
  Calls Tryz.prog 91 #[.slice A rs.length c] w fun e w' =>∃v rs',e=.returned v∧w'.ownsRow w.heap.size 65 4 v rs.length (aA7 rs')∧rs'.map aF2.e=rs.map aF2.e∧(∀q∈rs',Bs w' w.heap.size q.v q.e.b)∧Below w.heap.size w w' :=by
 have HR:=qZ hr;have HD:=qZ hd;have HF:=qZ hF;have HL:=qZ hl;clear hr hd hF hl;go_enter Tryz.func91,Tryz.ntmps91
 go_wp2_with fail
 go_loopw [4,3,5] (fun i v _ wr=>∃(k:Nat) (ra:List aF2),k<=rs.length∧i=.int .i64 k∧Hid (ra.length=k)∧Hid (ra.map aF2.e=(rs.take k).map aF2.e)∧Hid (wr.ownsRow w.heap.size 65 4 v k (aA7 ra))∧Hid (∀q∈ra,Bs wr w.heap.size q.v q.e.b)∧Hid (Below w.heap.size w wr)) (fun i _ _ _=>rs.length-(intOf i).toNat)
 case atStart=>exact⟨0,[],by omega,rfl,qZ rfl,qZ rfl,qZ (World.ownsRow_nil _ _ _ _),qZ (fun q hq=>by cases hq),qZ (lS _ _)⟩
 obtain⟨k,ra,hk,rfl,x4,n8,HO,HQ,HB⟩:=hrel;have m9:=HB.out.size;obtain⟨Av,cv,hv,_,_,_⟩:=aB2 HO.out;subst hv;by_cases hlt:k<rs.length
 rotate_left
 ·obtain rfl:k=rs.length:=by omega
  go_wp2_with fail
  go_ret
  have h2:=n8.out;rw[List.take_length] at h2;exact⟨_,ra,rfl,HO.out,h2,HQ.out,HB.out⟩
 obtain⟨eb,eo,rfl,_,g9,f8⟩:=HR.out (by rw[aC3];omega);obtain⟨q,hq⟩:∃q,q=rs[k]:=⟨_,rfl⟩
 have j9:q∈rs:=by rw[hq];exact lX hlt
 have m7:rs.take (k+1)=rs.take k++[q]:=by rw[hq];exact List.take_succ_eq_append_getElem hlt
 obtain⟨Aq,cq,o7,q6,x6,l9⟩:=HD.out q j9;have s9:=HL.out q j9;have a9:∀j,j<4->(aA7 rs)[k*4+j]? =(aK2 q)[j]? :=fun j hj=>by rw[aF4 _ hlt hj,hq]
 have e0:wr.cell? ⟨eb,eo+k*4,none⟩=some (.int .i64 q.e.ix):=(HB.out.cell (p:=⟨eb,eo+k*4,none⟩) g9).trans (f8 (k*4) _ (a9 0 (by omega)));have e1:wr.cell? ⟨eb,eo+k*4+1,none⟩=some (.int .i64 q.e.tm):=(HB.out.cell (p:=⟨eb,eo+k*4+1,none⟩) g9).trans (f8 (k*4+1) _ (a9 1 (by omega)));have e2:wr.cell? ⟨eb,eo+k*4+2,none⟩=some (.int .i64 q.e.kd):=(HB.out.cell (p:=⟨eb,eo+k*4+2,none⟩) g9).trans (f8 (k*4+2) _ (a9 2 (by omega)));have e3:wr.cell? ⟨eb,eo+k*4+3,none⟩=some (.slice Aq q.e.b.length cq):=(HB.out.cell (p:=⟨eb,eo+k*4+3,none⟩) g9).trans ((f8 (k*4+3) _ (a9 3 (by omega))).trans (by rw[<-o7]));obtain⟨e,he⟩:∃e,e=q.e:=⟨_,rfl⟩
 rw[<-he] at e0 e1 e2 e3 q6 l9 s9;have HE:=qZ he;have t9:=qZ m7;obtain⟨wA,f9⟩:∃W,W=wr.alloc (.cells #[.int .i64 e.ix,.int .i64 e.tm,.int .i64 e.kd,.slice Aq e.b.length cq] 65):=⟨_,rfl⟩
 have f7:Below wr.heap.size wr wA:=by rw[f9];exact(lS _ wr).alloc (lR _) _
 have m5:Blk wA wr.heap.size 65 #[.int .i64 e.ix,.int .i64 e.tm,.int .i64 e.kd,.slice Aq e.b.length cq]:=by rw[f9];exact Blk.new wr _ _
 have m6:=m5.lt;obtain⟨wB,l6⟩:∃W,W=wA.alloc (.cells #[] 5):=⟨_,rfl⟩
 have d9:Below wA.heap.size wA wB:=by rw[l6];exact(lS _ wA).alloc (lR _) _
 have n4:wB.ownsRow wA.heap.size 5 1 (.slice (some ⟨wA.heap.size,0,none⟩) 0 0) 0 []:=by rw[l6];exact bB3 wA _ _
 have l4:=m5.below d9 m6;have o4:=f7.size;have x5:=d9.size;have b3:wB.cell? ⟨wr.heap.size,3,none⟩=some (.slice Aq e.b.length cq):=l4.cell 3;have o9:0<e.b.length->∃ad,Aq=some ad∧∀j u,(cells e.b)[j]? =some u->wB.cell? (ad.add j)=some u:=fun h0=>by
  obtain⟨xb,xo,rfl,_,p9,p6⟩:=l9 (by rw[aA1];exact h0);refine⟨_,rfl,fun j u hu=>?_⟩;rw[add_lit];exact(d9.cell (p:=⟨xb,xo+j,none⟩) (by show xb<wA.heap.size;omega)).trans ((f7.cell (p:=⟨xb,xo+j,none⟩) (by show xb<wr.heap.size;omega)).trans ((HB.out.cell (p:=⟨xb,xo+j,none⟩) p9).trans (p6 j u hu)))
 have o5:=qZ o9;have f6:=qZ n4;have t6:=qZ f9;have n6:=qZ l4;have m0:=qZ (HB.out.trans ((f7.trans (d9.mono o4)).mono m9));have l5:=qZ (f7.trans (d9.mono o4));subst l6;clear f9 f7 m5 d9 n4 l4 o9 l9 hq j9 m7 a9 f8 he o7;go_upto_region 6 with fail
 rw[<-t6.out];go_upto_region 7 with(at_builtin;go_must (refine aH9 rfl (.tmp 16) (.tmp 18) 34 rfl wA.heap.size 5 _ 1 1 Tryz.underlying34 aC6 rfl (by decide) (some ⟨wA.heap.size,0,none⟩) rfl f6.out Aq e.b.length cq (cells e.b) rfl (by rw[aA1];omega) o5.out (by intro u hu;obtain⟨x,_,rfl⟩:=List.mem_map.1 hu;rfl) (by unfold maxLen;omega) (by omega) (by omega) ?_;intro v6 w6 a8 m4;obtain⟨A6,c6,p7,_,_,_⟩:=aB2 a8;subst p7;have i6:=n6.out.below m4 (by omega);have f3:w6.cell? ⟨wr.heap.size,3,none⟩=_:=i6.cell 3;have z3:w6.frozen? ⟨wr.heap.size,3,none⟩=false:=i6.frozen _;have n7:=qZ a8;have m8:=qZ m4;have n5:=qZ i6;clear a8 m4 i6))
 have d8:=n5.out.set_ 3 (.slice A6 e.b.length c6);have j6:=aI0 (l5.out.trans (m8.out.mono l5.out.size)) wr.heap.size 3 (.slice A6 e.b.length c6) (lR _);have l7:Own (w6.setCell ⟨wr.heap.size,3,none⟩ (.slice A6 e.b.length c6)) wA.heap.size 5 (.slice A6 e.b.length c6) (cells e.b):=Own.far (show Own w6 wA.heap.size 5 (.slice A6 e.b.length c6) (cells e.b) from by unfold Own;rw[aA1];exact n7.out) (aA0 w6 wr.heap.size 3 _) (by omega);obtain⟨w7,j8⟩:∃W,W=w6.setCell ⟨wr.heap.size,3,none⟩ (.slice A6 e.b.length c6):=⟨_,rfl⟩
 rw[<-j8] at d8 j6 l7;have p8:=qZ j8;have g0:w7.cell? ⟨wr.heap.size,0,none⟩=some (.int .i64 e.ix):=d8.cell 0;have g1:w7.cell? ⟨wr.heap.size,1,none⟩=some (.int .i64 e.tm):=d8.cell 1;have g2:w7.cell? ⟨wr.heap.size,2,none⟩=some (.int .i64 e.kd):=d8.cell 2;have g3:w7.cell? ⟨wr.heap.size,3,none⟩=some (.slice A6 e.b.length c6):=d8.cell 3;have t4:=j6.size;have m3:Below w7.heap.size w7 (w7.alloc (.cells #[.int .i64 e.ix,.int .i64 e.tm,.int .i64 e.kd,.slice A6 e.b.length c6] 65)):=(lS _ w7).alloc (lR _) _;have i4:=j6.trans (m3.mono t4);have m2:=qZ (HB.out.trans (i4.mono m9));have g8:=qZ (aE6 HO.out i4);have n9:=qZ (fun q hq=>Own.below (HQ.out q hq) i4 (lR _));have o6:=qZ (Own.mono (Own.below l7 m3 (lR _)) (show w.heap.size<=wA.heap.size by omega));have HC:=qZ (aG0 (Blk.new w7 65 #[.int .i64 e.ix,.int .i64 e.tm,.int .i64 e.kd,.slice A6 e.b.length c6]));clear d8 j6 l7 j8 m3 i4 HO HQ HB n7 m8 n5 l5 m0 o5 f6 n6 f3 z3 b3 e0 e1 e2 e3;rw[<-p8.out];go_wp2_with (at_builtin;go_must (refine aG7 rfl (.tmp 21) (.tmp 23) 40 rfl w.heap.size 65 (.agg #[.int .i64 0,.int .i64 0,.int .i64 0,.slice none 0 0]) 4 48 Tryz.underlying40 aM3 rfl (by decide) _ k (aA7 ra) rfl g8.out ⟨w7.heap.size,0,none⟩ 1 1 _ rfl rfl HC.out (by simp[Value.oneCell']) (by unfold maxLen;omega) (by omega) (by have:=m2.out.size;omega) ?_;intro v9 w9 b8 o8 p4;have p0:=qZ b8;have l8:=qZ o8;clear b8 o8 p4))
 have p5:=Below.grown m2.out l8.out m2.out.size (fun j hj=>(World.ownsRow.lt g8.out j hj).1);have t8:=qZ (Own.kept o6.out l8.out (jrow_type_ne o6.out g8.out (by decide)));have t7:=qZ (fun q hq=>Own.kept (n9.out q hq) l8.out (jrow_type_ne (n9.out q hq) g8.out (by decide)));have q8:=qZ p5;go_roundw
 case rel=>
  refine⟨k+1,ra++[⟨.slice A6 e.b.length c6,e⟩],by omega,by go_num,qZ (by rw[lT,x4.out];rfl),qZ ?_,qZ ?_,qZ (fun q hq=>?_),q8⟩
  ·rw[t9.out,mE,mE,n8.out,mG,List.map_nil,mG,List.map_nil,HE.out]
  ·rw[aI3]
   have h1:=p0.out;rw[show aA7 [(⟨.slice A6 e.b.length c6,e⟩:aF2)]=[.int .i64 e.ix,.int .i64 e.tm,.int .i64 e.kd,.slice A6 e.b.length c6] from by simp[aA7,aK2]];exact h1
  rcases List.mem_append.1 hq with hq|hq
  ·exact t7.out q hq
  obtain rfl:=List.mem_singleton.1 hq;exact t8.out
 case measure=>simp[intOf];omega
end
section
open Go.RowKit Go.Maps Oct
theorem bX7{w:World}{F:Nat->Prop}{rs:List aF2}(hd:∀q∈rs,bF9 w F q.v q.e.b):∀u∈aA7 rs,u.oneCell' =true:=by
 intro u hu;obtain⟨q,hq,h⟩:=List.mem_flatMap.1 hu;obtain⟨Aq,cq,hv,_⟩:=hd q hq;unfold aK2 at h;simp only[List.mem_cons,List.not_mem_nil,or_false] at h;rcases h with rfl|rfl|rfl|rfl
 ·rfl
 ·rfl
 ·rfl
 rw[hv];rfl
theorem bS6.entries{F:Nat->Prop}{gj g:Nat}{j:JnP}{w:World}(h:bS6 w F gj g j)(hF:∀k,F k->k<w.heap.size)(hn:j.ents.length<=1099511627776)(ht:∀s∈j.segs,∀e∈s.l,e.b.length<=1099511627776):
  Calls Tryz.prog 43 #[.pointer (some ⟨gj,0,none⟩)] w fun e w' =>∃v d8,e=.returned v∧w'.ownsRow w.heap.size 65 4 v d8.length (aA7 d8)∧d8.map aF2.e=j.ents∧(∀q∈d8,Bs w' w.heap.size q.v q.e.b)∧Below w.heap.size w w' :=by
 obtain⟨⟨A,c,a8,h1,h2,h3,h4,h5⟩,h6,_⟩:=h;have c3:w.cell? ⟨gj,3,none⟩=some (.slice A a8.length c):=h1.cell 3;have m4:=h1.lt;have H3:=qZ h3;have H4:=qZ h4;have H5:=qZ h5;have HF:=qZ hF;have HT:=qZ ht;have a9:j.ents=(a8.map fun q=>q.s.l).flatten:=by unfold JnP.ents;rw[<-h4,List.map_map];rfl
 have l6:=qZ a9;have HN:Hid (((a8.map fun q=>q.s.l).flatten).length<=1099511627776):=qZ (by rw[<-a9];exact hn);have o4:a8.length<=1099511627776:=by rw[show a8.length=j.segs.length by rw[<-h4,lU]];exact h6
 clear h1 h2 h3 h4 h5 h6 hF hn ht a9;go_enter Tryz.func43,Tryz.ntmps43
 go_wp2_with fail
 go_loopw [4,3] (fun i v wr=>∃(k:Nat) (ro:List aF2),k<=a8.length∧i=.int .i64 k∧Hid (wr.ownsRow w.heap.size 65 4 v ro.length (aA7 ro))∧Hid (ro.map aF2.e=((a8.take k).map fun q=>q.s.l).flatten)∧Hid (∀q∈ro,bF9 wr F q.v q.e.b)∧Hid (Below w.heap.size w wr)) (fun i _ _=>a8.length-(intOf i).toNat)
 case atStart=>exact⟨0,[],by omega,rfl,qZ (World.ownsRow_nil _ _ _ _),qZ rfl,qZ (fun q hq=>by cases hq),qZ (lS _ _)⟩
 obtain⟨k,ro,hk,rfl,HO,HE,HQ,HB⟩:=hrel;have f6:=HB.out.size;obtain⟨Av,cv,hv,m3,n9,hx⟩:=aB2 HO.out;subst hv;clear hx;have d3:wr.cell? ⟨gj,3,none⟩=some (.slice A a8.length c):=(HB.out.cell (p:=⟨gj,3,none⟩) m4).trans c3;by_cases hlt:k<a8.length
 rotate_left
 ·obtain rfl:k=a8.length:=by omega
  rw[List.take_length] at HE;have m6:ro.length<=1099511627776:=by
   rw[<-lU aF2.e,HE.out];exact HN.out
  have HC:=qZ (cA6 (F:=fun x=>x<wr.heap.size) Av ro cv wr (RdF.of_row HO.out (fun x _ hx=>hx) (by rw[aC3];omega)) (fun q hq=>by
   obtain⟨Aq,cq,e,y1,y2,y3⟩:=HQ.out q hq;exact⟨Aq,cq,e,y1,y2,y3.mono (fun x hx=>by have:=HF.out x hx;omega)⟩) (fun x hx=>hx) m6 (fun q hq=>by
   have h1:q.e∈j.ents:=by rw[l6.out,<-HE.out];exact List.mem_map.2 ⟨q,hq,rfl⟩
   unfold JnP.ents at h1;obtain⟨l,l7,l9⟩:=List.mem_flatten.1 h1;obtain⟨s,n4,rfl⟩:=List.mem_map.1 l7;exact HT.out s n4 q.e l9) ⟨m3,by unfold maxLen;omega⟩)
  go_wp2_with fail
  refine HC.out.mono ?_;rintro e w3 ⟨v3,d8,rfl,f9,g8,l5,j8⟩;have m8:ro.length=d8.length:=by rw[<-lU aF2.e,<-g8,lU]
  rw[m8] at f9;have HV:=qZ (aV8 f9 f6);have HM:=qZ (g8.trans (HE.out.trans l6.out.symm));have m0:=qZ (fun q hq=>Own.mono (l5 q hq) f6);have m5:=qZ (HB.out.trans (j8.mono f6));clear f9 g8 l5 j8 HC;go_wp2_with fail
  go_ret
  exact⟨_,d8,rfl,HV.out,HM.out,m0.out,m5.out⟩
 obtain⟨ab,ao,rfl,o5,n5,l4⟩:=H3.out (by rw[aH8];omega);obtain⟨q,hq⟩:∃s,s=a8[k]:=⟨_,rfl⟩
 have i4:q∈a8:=by rw[hq];exact lX hlt
 have hR:=(H5.out q i4).1.keep (w' :=wr) f6 (fun k hk=>HB.out.block k (HF.out k hk));have e0:wr.cell? ⟨ab,ao+(k*8+3),none⟩=some (.slice q.al q.rs.length q.cl):=(HB.out.cell (p:=⟨ab,ao+(k*8+3),none⟩) n5).trans (l4 (k*8+3) _ ((aR8 a8 hlt (j:=3) (by omega)).trans (by rw[<-hq];rfl)));have d0:wr.cell? ⟨ab,ao+k*8+3,none⟩=some (.slice q.al q.rs.length q.cl):=by simpa[Nat.add_assoc] using e0
 have f8:((a8.take (k+1)).map fun q=>q.s.l).flatten=((a8.take k).map fun q=>q.s.l).flatten++q.s.l:=by
  rw[List.take_add_one,lW hlt,<-hq];simp
 have g9:q.rs.length=q.s.l.length:=by rw[<-hR.map,lU]
 have n8:ro.length+q.rs.length<=1099511627776:=by
  have e1:ro.length=(((a8.take k).map fun q=>q.s.l).flatten).length:=by rw[<-HE.out,lU]
  have e2:(((a8.take (k+1)).map fun q=>q.s.l).flatten).length<=((a8.map fun q=>q.s.l).flatten).length:=by
   rw[show(a8.map fun q=>q.s.l)=(a8.take (k+1)).map (fun q=>q.s.l)++(a8.drop (k+1)).map (fun q=>q.s.l) from by rw[<-mE,List.take_append_drop],List.flatten_append,lT];omega
  rw[f8,lT] at e2;have:=HN.out;omega
 have HX:Hid (0<q.rs.length->∃ad,q.al=some ad∧∀i u,(aA7 q.rs)[i]? =some u->wr.cell? (ad.add i)=some u):=qZ (fun h0=>by
  obtain⟨g3,o3,e,_,_,hc⟩:=hR.ents (by rw[aC3];omega);refine⟨_,e,fun i u hu=>?_⟩;rw[add_lit];exact hc i u hu)
 have n7:=qZ f8;have l8:=qZ hR.map;have m9:=qZ hR.dat;have m7:=qZ (bX7 hR.dat);clear f8 hR g9 hq i4 e0 l4;go_wp2_with (at_builtin;go_must (refine aJ4 rfl (.tmp 14) (.tmp 22) 40 rfl w.heap.size 65 (.agg #[.int .i64 0,.int .i64 0,.int .i64 0,.slice none 0 0]) 4 48 Tryz.underlying40 aM3 rfl (by decide) _ ro.length (aA7 ro) rfl HO.out q.al q.rs.length q.cl (aA7 q.rs) rfl (by rw[aC3];omega) HX.out m7.out (by unfold maxLen;omega) (by omega) (by omega) ?_;intro v6 w6 b8 j6;have m2:=qZ b8;have i6:=qZ j6;clear b8 j6))
 have j9:=HB.out.grown i6.out f6 (fun k hk=>(World.ownsRow.lt HO.out k hk).1);have f7:∀x,F x->w6.heap[x]? =wr.heap[x]? :=fun x hx=>(j9.block x (HF.out x hx)).trans (HB.out.block x (HF.out x hx)).symm
 have n6:=i6.out.size;have d9:∀(v:Value) (l:List UInt8),bF9 wr F v l->bF9 w6 F v l:=fun v l hd=>by
  obtain⟨Aq,cq,e,y1,y2,y3⟩:=hd;exact⟨Aq,cq,e,y1,y2,y3.keep n6 f7⟩
 go_roundw
 case rel=>
  refine⟨k+1,ro++q.rs,by omega,by go_num,qZ ?_,qZ ?_,qZ ?_,qZ j9⟩
  ·rw[lT,aI3]
   exact m2.out
  ·rw[mE,HE.out,l8.out,n7.out]
  intro x hx;rcases List.mem_append.1 hx with hx|hx
  ·exact d9 _ _ (HQ.out x hx)
  exact d9 _ _ (m9.out x hx)
 case measure=>simp[intOf];omega
end
end Go.Proofs.YtgeofijddhflaaaGreatDoor
