/- Two rows of files that are one (pavaneref21.Same). Condition: they can be read, and hold the same. -/
import Derived.Test.YtgeofijddhflaaaGreatDoorQKeepRPieces
import Derived.Test.YtgeofijddhflaaaGreatDoorQDiskApp
import Derived.Deep.DeepMust
set_option maxHeartbeats 8000000
set_option maxRecDepth 100000
namespace Go.Proofs.YtgeofijddhflaaaGreatDoor
section
open Go.RowKit Go.Maps Go.Sort Oct
structure RF where
 v:Value
 f:FD
def aO4(q:Nm×RF):List Value:=[.string (str q.1),q.2.v,.int .i64 q.2.f.safe]
def aH3(es:List (Nm×RF)):List Value:=es.flatMap aO4
theorem cD2:aH3 []=[]:=rfl
theorem aN6(q:Nm×RF)(es:List (Nm×RF)):aH3 (q::es)=aO4 q++aH3 es:=by unfold aH3;rw[List.flatMap_cons]
theorem bN9(a b:List (Nm×RF)):aH3 (a++b)=aH3 a++aH3 b:=by unfold aH3;rw[List.flatMap_append]
theorem bZ1(a:List (Nm×RF))(q:Nm×RF):aH3 (a++[q])=aH3 a++aO4 q:=by rw[bN9,aN6,cD2,List.append_nil]
theorem cE0(es:List (Nm×RF)):(aH3 es).length=es.length*3:=by
 induction es with
 |nil=>rfl
 |cons q r ih=>rw[aN6,lT,ih];simp[aO4];omega
theorem aO2(es:List (Nm×RF)){k:Nat}(hk:k<es.length){j:Nat}(hj:j<3):(aH3 es)[k*3+j]? =(aO4 es[k])[j]? :=by
 induction es generalizing k with
 |nil=>simp at hk
 |cons q r ih=>
  rw[aN6];cases k with
  |zero=>rw[List.getElem?_append_left (by simp[aO4];omega)];simp
  |succ k=>
   rw[List.getElem?_append_right (by simp[aO4];omega)];have:(k+1)*3+j-(aO4 q).length=k*3+j:=by simp[aO4];omega
   rw[this,ih (by simpa using hk)]
   rfl
theorem aY9(es:List (Nm×RF)){k:Nat}(hk:k<es.length){j:Nat}(hj:j<3)(u:Value)(q:Nm×RF)(hq:aO4 q=(aO4 es[k]).set j u):(aH3 es).set (k*3+j) u=aH3 (es.set k q):=by
 induction es generalizing k with
 |nil=>simp at hk
 |cons x r ih=>
  cases k with
  |zero=>
   simp only[List.set_cons_zero,aN6,Nat.zero_mul,Nat.zero_add];rw[List.set_append,if_pos (by simp[aO4];omega)];simp only[List.getElem_cons_zero] at hq;rw[hq]
  |succ k=>
   simp only[List.set_cons_succ,aN6];rw[List.set_append,if_neg (by simp[aO4];omega)];have:(k+1)*3+j-(aO4 x).length=k*3+j:=by simp[aO4];omega
   rw[this,ih (by simpa using hk) hq]
def aC1(g:Nat)(vL:Value)(es:List (Nm×RF))(k:Nat):Prop:=k=g∨vL.ownBlock=some k∨∃q∈es,q.2.v.ownBlock=some k
structure aB0(w:World)(base g:Nat)(p:PWD)(room:Int)(vL:Value)(es:List (Nm×RF)):Prop where
 blk:∃x y:Int,Blk w g 74 #[vL,.int .i64 room,.bool p.off,.bool p.armed,.int .i64 x,.int .i64 y]∧(p.armed=true->x=p.acts∧y=p.part)∧(-9223372036854775808<=x∧x<=9223372036854775807)∧(-9223372036854775808<=y∧y<=9223372036854775807)
 own:w.ownsRow base 85 3 vL es.length (aH3 es)
 got:∀q∈es,Got w base q.2.v q.2.f.b
 safe:∀q∈es,q.2.f.safe<=q.2.f.b.length
 rising:aL2 es
 low:base<=g
 num:(p.armed=true->0<=p.acts)∧0<=room∧room<=9223372036854775807
section
variable{w w' :World}{base g:Nat}{p:PWD}{room:Int}{vL:Value}{es:List (Nm×RF)}
theorem aB0.glt(h:aB0 w base g p room vL es):g<w.heap.size:=by obtain⟨x,y,hb,_⟩:=h.blk;exact hb.lt
theorem aB0.lt(h:aB0 w base g p room vL es):∀k,aC1 g vL es k->base<=k∧k<w.heap.size:=by
 intro k hk;rcases hk with rfl|hk|⟨q,hq,hk⟩
 ·exact⟨h.low,h.glt⟩
 ·exact World.ownsRow.lt h.own k hk
 exact⟨(h.got q hq).row.base k hk,(h.got q hq).row.lt k hk⟩
theorem bA0{e:TypeId}{size n:Nat}{v:Value}{xs:List Value}(h:w.ownsRow base e size v n xs)(hk:∀k,v.ownBlock=some k->w'.heap[k]? =w.heap[k]?):w'.ownsRow base e size v n xs:=by
 refine⟨h.1,?_⟩;rcases h.2 with hn|⟨g',cap,a8,hv,hb,hg,rest⟩
 ·exact .inl hn
 exact .inr ⟨g',cap,a8,hv,hb,(hk g' (by rw[hv];rfl)).trans hg,rest⟩
theorem aB0.keep(h:aB0 w base g p room vL es)(hs:w.heap.size<=w'.heap.size)(hk:∀k,aC1 g vL es k->w'.heap[k]? =w.heap[k]?):aB0 w' base g p room vL es:=by
 obtain⟨x,y,hb,a8⟩:=h.blk;exact⟨⟨x,y,(hk g (.inl rfl)).trans hb,a8⟩,bA0 h.own fun k e=>hk k (.inr (.inl e)),fun q hq=>(h.got q hq).kept (fun j hj=>hk j (.inr (.inr ⟨q,hq,hj⟩))) hs,h.safe,h.rising,h.low,h.num⟩
theorem aB0.below(h:aB0 w base g p room vL es)(hb:Below w.heap.size w w'):aB0 w' base g p room vL es:=
 h.keep hb.size fun k hk=>hb.block k (h.lt k hk).2
theorem aB0.drewN_(h:aB0 w base g p room vL es)(k:Nat):aB0 (w.drewN k) base g p room vL es:=h.keep (lR _) fun _ _=>rfl
theorem aS0{e T:TypeId}{size n a:Nat}{v:Value}{xs:List Value}{cs:Array Value}(h:w.ownsRow base e size v n xs)(hb:Blk w a T cs)(hT:T≠e):v.ownBlock≠some a:=fun hv=>by
 rcases h.2 with⟨hn,_⟩|⟨g',cap,cur,hv',_,hg,_⟩
 ·rw[hn] at hv;cases hv
 rw[hv'] at hv;have e' :g' =a:=by simpa[Value.ownBlock] using hv
 subst e';exact blk_ne hb hg hT rfl
theorem bP2{e:TypeId}{base' size n:Nat}{v x:Value}{xs:List Value}{l:List UInt8}(h:w.ownsRow base e size v n xs)(hx:Got w base' x l)(he:e≠5):∀k,x.ownBlock=some k->v.ownBlock≠some k:=fun k hk hv=>by
 rcases h.2 with⟨hn,_⟩|⟨g',cap,cur,hv',_,hg,_⟩
 ·rw[hn] at hv;cases hv
 rw[hv'] at hv;have e' :g' =k:=by simpa[Value.ownBlock] using hv
 subst e';exact aF0 hx (T:=e) (cs:=cur) hg he hk
def RTo(w:World)(base g:Nat)(vL:Value)(es:List (Nm×RF))(d:DkD)(w' :World):Prop:=∃vL' es',aB0 w' base g d.pw d.room vL' es' ∧sec RF.f es' =d.fs∧Fr (aC1 g vL es) w w' ∧∀k,aC1 g vL' es' k->aC1 g vL es k∨w.heap.size<=k
abbrev aJ1 (p:PWD) (room:Int) (es:List (Nm×RF)):DkD:=⟨p,room,sec RF.f es⟩
theorem RTo.mk' (h:aB0 w' base g p room vL es)(hf:Fr (aC1 g vL es) w w'):RTo w base g vL es (aJ1 p room es) w' :=⟨vL,es,h,rfl,hf,fun k hk=>.inl hk⟩
theorem RTo.below{w1:World}{d:DkD}(h:RTo w base g vL es d w')(hb:Below w'.heap.size w' w1):RTo w base g vL es d w1:=by
 obtain⟨a9,a8,h1,h2,h3,h4⟩:=h;exact⟨a9,a8,h1.below hb,h2,h3.trans (Fr.of_below (fun _=>False) hb) (fun j hj=>hj.elim),h4⟩
theorem RTo.trans{w1 w2:World}{vL1:Value}{es1:List (Nm×RF)}{d:DkD}(hf:Fr (aC1 g vL es) w w1)(hi:∀k,aC1 g vL1 es1 k->aC1 g vL es k∨w.heap.size<=k)(h:RTo w1 base g vL1 es1 d w2):RTo w base g vL es d w2:=by
 obtain⟨a9,a8,h1,h2,h3,h4⟩:=h;refine⟨a9,a8,h1,h2,hf.trans h3 hi,fun k hk=>?_⟩;rcases h4 k hk with h5|h5
 ·exact hi k h5
 exact .inr (Nat.le_trans hf.size h5)
theorem aB0.shape(h:aB0 w base g p room vL es):∃A c,vL=.slice A es.length c∧es.length<=c∧c<=maxLen∧∀k,(hk:k<es.length)->∃b,A=some ⟨b,0,none⟩∧b<w.heap.size∧w.cell? ⟨b,k*3,none⟩=some (.string (str es[k].1))∧w.cell? ⟨b,k*3+1,none⟩=some es[k].2.v∧w.cell? ⟨b,k*3+2,none⟩=some (.int .i64 es[k].2.f.safe)∧
  w.frozen? ⟨b,k*3+1,none⟩=false∧w.frozen? ⟨b,k*3+2,none⟩=false:=by
 rcases h.own.2 with⟨hn,h0⟩|⟨b,cap,a8,hv,hb,hg,hc,a9,b8,hx⟩
 ·exact⟨none,0,by rw[hn,h0],by omega,by unfold maxLen;omega,fun k hk=>by omega⟩
 refine⟨_,cap,hv,hc,a9,fun k hk=>⟨b,rfl,(Array.getElem?_eq_some_iff.1 hg).1,?_,?_,?_,?_,?_⟩⟩
 ·rw[World.ownsRow.cellAt (hv▸h.own) (k*3) (by omega)]
  exact aO2 es hk (j:=0) (by omega)
 ·rw[World.ownsRow.cellAt (hv▸h.own) (k*3+1) (by omega)]
  exact aO2 es hk (j:=1) (by omega)
 ·rw[World.ownsRow.cellAt (hv▸h.own) (k*3+2) (by omega)]
  exact aO2 es hk (j:=2) (by omega)
 ·exact Blk.frozen (t:=85) (cs:=a8) hg _
 exact Blk.frozen (t:=85) (cs:=a8) hg _
theorem aB0.power(h:aB0 w base g p room vL es){p' :PWD}(hg:w.grownBy w' (some g)){x y:Int}(hB:Blk w' g 74 #[vL,.int .i64 room,.bool p'.off,.bool p'.armed,.int .i64 x,.int .i64 y])
  (b8:(p'.armed=true->x=p'.acts∧y=p'.part)∧(-9223372036854775808<=x∧x<=9223372036854775807)∧(-9223372036854775808<=y∧y<=9223372036854775807)) (hn:p'.armed=true->0<=p'.acts):aB0 w' base g p' room vL es:=by
 obtain⟨x0,y0,a9,_⟩:=h.blk;have a8:∀k,aC1 g vL es k->k≠g->w'.heap[k]? =w.heap[k]? :=fun k hk hn=>hg.block k (h.lt k hk).2 (fun e=>hn (by injection e))
 exact⟨⟨x,y,hB,b8⟩,bA0 h.own fun k e=>a8 k (.inr (.inl e)) (fun e' =>aS0 h.own a9 (by decide) (by rw[e,e'])),
  fun q hq=>(h.got q hq).kept (fun j hj=>a8 j (.inr (.inr ⟨q,hq,hj⟩)) (fun e=>aF0 (h.got q hq) a9 (by decide) (by rw[hj,e]))) hg.size,h.safe,h.rising,h.low,⟨hn,h.num.2⟩⟩
theorem aB0.row(h:aB0 w base g p room vL es){vL' :Value}{es' :List (Nm×RF)}(hs:w.heap.size<=w'.heap.size){x y:Int}(hB:Blk w' g 74 #[vL',.int .i64 room,.bool p.off,.bool p.armed,.int .i64 x,.int .i64 y])
  (hxy:(p.armed=true->x=p.acts∧y=p.part)∧(-9223372036854775808<=x∧x<=9223372036854775807)∧(-9223372036854775808<=y∧y<=9223372036854775807))
  (hown:w'.ownsRow base 85 3 vL' es'.length (aH3 es')) (hgot:∀q∈es',Got w' base q.2.v q.2.f.b) (hsafe:∀q∈es',q.2.f.safe<=q.2.f.b.length) (hr:aL2 es'):aB0 w' base g p room vL' es' :=
 ⟨⟨x,y,hB,hxy⟩,hown,hgot,hsafe,hr,h.low,h.num⟩
theorem aH5{α β:Type}(f:α->β)(l:List (Nm×α)):(sec f l).length=l.length:=by simp[sec]
end
end
section
open Go.RowKit Go.Maps Go.Sort Oct
theorem bN7{w:World}{g:Nat}{t:TypeId}{a b c d e f:Value}(h:Blk w g t #[a,b,c,d,e,f]):(w.cell? ⟨g,0,none⟩=some a∧w.cell? ⟨g,1,none⟩=some b∧w.cell? ⟨g,2,none⟩=some c∧w.cell? ⟨g,3,none⟩=some d∧w.cell? ⟨g,4,none⟩=some e∧w.cell? ⟨g,5,none⟩=some f)∧
  w.frozen? ⟨g,0,none⟩=false∧w.frozen? ⟨g,1,none⟩=false∧w.frozen? ⟨g,2,none⟩=false∧w.frozen? ⟨g,3,none⟩=false∧w.frozen? ⟨g,4,none⟩=false∧w.frozen? ⟨g,5,none⟩=false:=
 ⟨⟨h.cell 0,h.cell 1,h.cell 2,h.cell 3,h.cell 4,h.cell 5⟩,h.frozen 0,h.frozen 1,h.frozen 2,h.frozen 3,h.frozen 4,h.frozen 5⟩
theorem bS5(n k:Int)(hn:-9223372036854775808<=n∧n<=9223372036854775807)(hk:1<=k∧k<=4611686018427387904)(w:World):Calls Tryz.prog 35 #[.int .i64 n,.int .i64 k] w fun e w' =>e=.returned (.int .i64 (n %k))∧w=w' :=by
 obtain⟨a9,b8⟩:=hk;have h1:-k<n.tmod k:=by have:=Int.lt_tmod_of_pos n (show 0<k by omega);omega
 have h2:n.tmod k<k:=Int.tmod_lt_of_pos n (by omega);have h5:=Int.mul_tdiv_add_tmod n k;have h6:n.tmod k=n+(-(n.tdiv k))*k:=by rw[Int.neg_mul,Int.mul_comm];omega
 have h7:n.tmod k %k=n %k:=by rw[h6,Int.add_mul_emod_self_right]
 have a8:¬k=0:=by omega
 by_cases hneg:n.tmod k<0
 ·have h3:n.tmod k+k=n %k:=by
   rw[<-h7,<-Int.add_emod_right,Int.emod_eq_of_lt (by omega) (by omega)]
  have H3:=qZ h3;clear h3 hn h5 h6 h7;go_enter Tryz.func35,Tryz.ntmps35
  go_wp2;go_ret
  exact⟨by rw[<-H3.out];rfl,rfl⟩
 have h3:n.tmod k=n %k:=by
  rw[<-h7,Int.emod_eq_of_lt (by omega) (by omega)]
 have H3:=qZ h3;clear h3 hn h5 h6 h7;go_enter Tryz.func35,Tryz.ntmps35
 go_wp2;go_ret
 exact⟨by rw[<-H3.out];rfl,rfl⟩
theorem aI6(b:Bool)(w:World):Calls Tryz.prog 38 #[.bool b] w fun e w' =>e=.returned (.int .i64 (if b=true then 50 else 0))∧w=w' :=by
 cases b
 ·go_enter Tryz.func38,Tryz.ntmps38
  go_wp2;go_ret
  exact⟨rfl,rfl⟩
 go_enter Tryz.func38,Tryz.ntmps38
 go_wp2;go_ret
 exact⟨rfl,rfl⟩
def rAt{α:Type}(n:Nm)(l:List (Nm×α)):Int:=match l.findIdx? (fun q=>q.1==n) with|some k=>(k:Int)|none=>-1
theorem cH9{α:Type}{n:Nm}{l:List (Nm×α)}(h:∀q∈l,q.1≠n):rAt n l=-1:=by
 unfold rAt;have:l.findIdx? (fun q=>q.1==n)=none:=by
  rw[List.findIdx?_eq_none_iff];intro q hq
  simpa using h q hq
 rw[this]
theorem cI8{α:Type}{n:Nm}{l:List (Nm×α)}{k:Nat}(hk:k<l.length)(he:l[k].1=n)(h:∀q∈l.take k,q.1≠n):rAt n l=(k:Int):=by
 unfold rAt;have:l.findIdx? (fun q=>q.1==n)=some k:=by
  rw[List.findIdx?_eq_some_iff_getElem];refine⟨hk,by simp[he],fun j hj=>?_⟩;have:=h l[j] (List.mem_take_iff_getElem.2 ⟨j,by omega,rfl⟩)
  simpa using this
 rw[this]
theorem aO1{α:Type}{n:Nm}{l:List (Nm×α)}{a:α}(h:aB6 n l=some a):∃k,∃hk:k<l.length,rAt n l=(k:Int)∧l[k]=(n,a):=by
 unfold aB6 at h;rw[Option.map_eq_some_iff] at h;obtain⟨p,hp,rfl⟩:=h;rw[List.find?_eq_some_iff_getElem] at hp;obtain⟨h1,k,hk,he,hn⟩:=hp;have a8:p.1=n:=by simpa using h1
 refine⟨k,hk,cI8 hk (by rw[he,a8]) (fun q hq=>?_),by rw[he,<-a8]⟩;obtain⟨j,hj,rfl⟩:=List.mem_take_iff_getElem.1 hq;have:=hn j (by omega)
 simpa using this
theorem aM1{α:Type}{n:Nm}{l:List (Nm×α)}(h:aB6 n l=none):rAt n l=-1:=by
 refine cH9 fun q hq e=>?_
 unfold aB6 at h;simp only[Option.map_eq_none_iff,List.find?_eq_none] at h;have:=h q hq;simp[e] at this
theorem bD3{w:World}{base g:Nat}{p:PWD}{room:Int}{vL:Value}{es:List (Nm×RF)}(h:aB0 w base g p room vL es)(n:Nm)(hl:es.length<=140737488351232):
  Calls Tryz.prog 36 #[.pointer (some ⟨g,0,none⟩),.string (str n)] w fun e w' =>e=.returned (.int .i64 (rAt n es))∧w=w' :=by
 obtain⟨x,y,hb,_⟩:=h.blk;obtain⟨⟨c0,c1,c2,c3,c4,c5⟩,_⟩:=bN7 hb;obtain⟨A,c,rfl,f7,f6,a8⟩:=h.shape;have d8:=qZ a8;clear a8 hb h c1 c2 c3 c4 c5;go_enter Tryz.func36,Tryz.ntmps36
 go_wp2_with fail
 go_loopw [5] (fun i wr=>∃k:Nat,k<=es.length∧i=.int .i64 k∧Hid (∀q∈es.take k,q.1≠n)∧Hid (w=wr)) (fun i _=>es.length-(intOf i).toNat)
 case atStart=>exact⟨0,by omega,rfl,qZ (by simp),qZ rfl⟩
 obtain⟨k,hk,rfl,HN,HW⟩:=hrel;obtain rfl:=HW.out;by_cases hlt:k<es.length
 rotate_left
 ·have HR:Hid (rAt n es=-1):=qZ (cH9 fun q hq=>HN.out q (by rw[List.take_of_length_le (by omega)];exact hq))
  go_wp2_with fail
  go_ret
  exact⟨by rw[HR.out];rfl,rfl⟩
 obtain⟨b,rfl,d9,q0,q1,q2,_⟩:=d8.out k hlt;by_cases he:es[k].1=n
 ·have HR:=qZ (cI8 hlt he HN.out)
  rw[he] at q0;clear he;go_wp2_with fail
  go_ret
  exact⟨by rw[HR.out];rfl,rfl⟩
 have b8:((str es[k].1).toList==(str n).toList)=false:=by rw[aZ7];exact decide_eq_false he
 have a9:Hid (∀q∈es.take (k+1),q.1≠n):=qZ (fun q hq=>by
  rw[List.take_succ_eq_append_getElem hlt] at hq;rcases List.mem_append.1 hq with hq|hq
  ·exact HN.out q hq
  rw[List.mem_singleton.1 hq];exact he)
 generalize es[k].1=nm at q0 b8
 clear he;go_wp2_with fail
 go_roundw
 case rel=>exact⟨k+1,by omega,by go_num,a9,qZ trivial⟩
 case measure=>simp[intOf];omega
theorem bA4{w:World}{base g:Nat}{p:PWD}{room:Int}{vL:Value}{es:List (Nm×RF)}(h:aB0 w base g p room vL es):
  Calls Tryz.prog 34 #[.pointer (some ⟨g,0,none⟩)] w fun e w' =>e=.returned (.bool p.cut.1)∧aB0 w' base g p.cut.2.2 room vL es∧Fr (aC1 g vL es) w w' ∧w'.heap.size=w.heap.size:=by
 obtain⟨x,y,hb,a9,hx,hy⟩:=h.blk;obtain⟨⟨c0,c1,c2,c3,c4,c5⟩,f0,f1,f2,f3,f4,f5⟩:=bN7 hb;have H:=qZ h;have HB:=qZ hb;have HY:=qZ hy;have hn:=h.num.1;obtain⟨off,armed,acts,part⟩:=p;simp only at c2 c3 a9 hn;clear h hb hy;cases armed with
 |false=>
  clear a9 hn;go_enter Tryz.func34,Tryz.ntmps34
  go_wp2_with fail
  go_ret
  exact⟨rfl,H.out,Fr.refl _ _,rfl⟩
 |true=>
  obtain⟨rfl,rfl⟩:=a9 rfl;have d8:=hn rfl;clear a9 hn;by_cases hp:0<x
  ·have a8:=aA0 w g 4 (.int .i64 (x-1))
   have e:PWD.cut ⟨off,true,x,y⟩=(false,0,⟨off,true,x-1,y⟩):=by simp[PWD.cut,hp]
   have HD:Hid (aB0 (w.setCell ⟨g,4,none⟩ (.int .i64 (x-1))) base g ⟨off,true,x-1,y⟩ room vL es):=qZ (H.out.power a8 (x:=x-1) (y:=y) (Blk.set_ HB.out 4 _) ⟨fun _=>⟨rfl,rfl⟩,⟨by omega,by omega⟩,HY.out⟩ (fun _=>by show 0<=x-1;omega));have HF:Hid (Fr (aC1 g vL es) w (w.setCell ⟨g,4,none⟩ (.int .i64 (x-1)))):=qZ (Fr.of_grown a8 (fun k e=>by injection e with e;exact .inl e.symm));rw[e];have b8:¬x=0:=by omega
   clear a8 e;go_enter Tryz.func34,Tryz.ntmps34
   go_wp2_with fail
   go_ret
   exact⟨rfl,HD.out,HF.out,by simp⟩
  obtain rfl:x=0:=by omega
  have a8:=aA4 (aA0 w g 3 (.bool false)) (aA0 (w.setCell ⟨g,3,none⟩ (.bool false)) g 2 (.bool true)) (.inl rfl);have e:PWD.cut ⟨off,true,0,y⟩=(true,y,⟨true,false,0,y⟩):=by simp[PWD.cut]
  have HD:Hid (aB0 ((w.setCell ⟨g,3,none⟩ (.bool false)).setCell ⟨g,2,none⟩ (.bool true)) base g ⟨true,false,0,y⟩ room vL es):=qZ (H.out.power a8 (x:=0) (y:=y) (Blk.set_ (Blk.set_ HB.out 3 _) 2 _) ⟨fun h=>(by cases h),⟨by omega,by omega⟩,HY.out⟩ (fun h=>by cases h));have HF:Hid (Fr (aC1 g vL es) w ((w.setCell ⟨g,3,none⟩ (.bool false)).setCell ⟨g,2,none⟩ (.bool true))):=qZ (Fr.of_grown a8 (fun k e=>by injection e with e;exact .inl e.symm));rw[e];clear a8 e;go_enter Tryz.func34,Tryz.ntmps34
  go_wp2_with fail
  go_ret
  exact⟨rfl,HD.out,HF.out,by simp⟩
theorem bV0(l:List (Nm×FD))(k:Nat):aB8 (l.take k)<=aB8 l:=by
 induction l generalizing k with
 |nil=>simp
 |cons q r ih=>
  cases k with
  |zero=>simp only[List.take_zero,aB8];have:=aD7 r;omega
  |succ k=>simp only[List.take_succ_cons,aB8];have:=ih k;omega
theorem bZ9(a b:List (Nm×FD)):aB8 (a++b)=aB8 a+aB8 b:=by
 induction a with
 |nil=>simp[aB8]
 |cons q r ih=>simp only[List.cons_append,aB8,ih];omega
def rsz(es:List (Nm×RF))(k:Nat):Int:=aB8 (sec RF.f (es.take k))
theorem dG9(es:List (Nm×RF)):rsz es 0=0:=by simp[rsz,aB8]
theorem dI8(es:List (Nm×RF)){k:Nat}(h:es.length<=k):rsz es k=aB8 (sec RF.f es):=by unfold rsz;rw[List.take_of_length_le h]
theorem dF6{es:List (Nm×RF)}{k:Nat}(hk:k<es.length):rsz es (k+1)=rsz es k+(es[k].2.f.b.length:Int):=by
 unfold rsz;rw[List.take_succ_eq_append_getElem hk];simp only[sec,mE,bZ9];simp[aB8]
theorem bP0(es:List (Nm×RF))(k:Nat):0<=rsz es k:=aD7 _
theorem cS8(es:List (Nm×RF))(k:Nat):rsz es k<=aB8 (sec RF.f es):=by
 unfold rsz;simp only[sec,List.map_take];exact bV0 _ _
theorem dA2{w:World}{base g:Nat}{p:PWD}{room:Int}{vL:Value}{es:List (Nm×RF)}(h:aB0 w base g p room vL es)(b8:aB8 (sec RF.f es)<=4611686018427387904)(hl:es.length<=140737488351232):
  Calls Tryz.prog 33 #[.pointer (some ⟨g,0,none⟩)] w fun e w' =>e=.returned (.int .i64 (room-aB8 (sec RF.f es)))∧w=w' :=by
 obtain⟨x,y,hb,_⟩:=h.blk;obtain⟨⟨c0,c1,c2,c3,c4,c5⟩,_⟩:=bN7 hb;obtain⟨A,c,rfl,f9,d9,a8⟩:=h.shape;obtain⟨_,f8,f7⟩:=h.num;have a9:=qZ a8;have HG:=qZ h.got;clear a8 hb h c2 c3 c4 c5;go_enter Tryz.func33,Tryz.ntmps33
 go_wp2_with fail
 go_loopw [3,4] (fun n i wr=>∃k:Nat,k<=es.length∧i=.int .i64 k∧n=.int .i64 (room-rsz es k)∧Hid (w=wr)) (fun _ i _=>es.length-(intOf i).toNat)
 case atStart=>exact⟨0,by omega,rfl,by rw[dG9];simp,qZ rfl⟩
 obtain⟨k,hk,rfl,rfl,HW⟩:=hrel;obtain rfl:=HW.out;by_cases hlt:k<es.length
 ·obtain⟨b,rfl,d8,q0,q1,q2,_⟩:=a9.out k hlt
  obtain⟨A1,f6,hv,_,_,_⟩:=(HG.out es[k] (lX hlt)).shape;rw[hv] at q1;have HS:=qZ (dF6 hlt);have h1:=bP0 es k;have h2:=cS8 es k;have h3:=cS8 es (k+1);have h4:(es[k].2.f.b.length:Int)<=4611686018427387904:=by have:=HS.out;omega
  generalize es[k].2.f.b.length=nb at q1 HS h4
  clear hv q0 q2 h3;go_wp2_with fail
  go_roundw
  case rel=>exact⟨k+1,by omega,by go_num,by have e:=HS.out;simp only[Value.int.injEq,true_and];omega,qZ trivial⟩
  case measure=>simp[intOf];omega
 have HR:Hid (rsz es k=aB8 (sec RF.f es)):=qZ (dI8 es (by omega));have h1:=bP0 es k;have h2:=cS8 es k;go_wp2_with fail
 go_ret
 exact⟨by rw[<-HR.out];rfl,rfl⟩
theorem dC8(room:Int)(hr:-9223372036854775808<=room∧room<=9223372036854775807)(w:World):
  Calls Tryz.prog 9 #[.int .i64 room] w fun e w' =>e=.returned (.pointer (some ⟨w.heap.size,0,none⟩))∧aB0 w' w.heap.size w.heap.size ⟨false,false,0,0⟩ (max room 0) (.slice none 0 0) []∧Below w.heap.size w w' :=by
 have a8:∀r:Int,0<=r->r<=9223372036854775807->aB0 (w.alloc (.cells #[.slice none 0 0,.int .i64 r,.bool false,.bool false,.int .i64 0,.int .i64 0] 74)) w.heap.size w.heap.size ⟨false,false,0,0⟩ r (.slice none 0 0) []:=fun r h0 h1=>
  ⟨⟨0,0,Blk.new w 74 _,(fun h=>by cases h),by decide,by decide⟩,World.ownsRow_nil _ _ _ _,(fun q hq=>by cases hq),(fun q hq=>by cases hq),List.Pairwise.nil,lR _,(fun h=>by cases h),h0,h1⟩
 have HF:=qZ a8;have HB:∀r:Int,Hid (Below w.heap.size w (w.alloc (.cells #[.slice none 0 0,.int .i64 r,.bool false,.bool false,.int .i64 0,.int .i64 0] 74))):=fun r=>qZ ((lS _ w).alloc (lR _) _)
 have HR:=qZ hr;clear hr a8;rcases Int.lt_or_le room 0 with h0|h0
 ·have e:max room 0=0:=by omega
  rw[e];have a9:=HB 0;clear HB e;go_enter Tryz.func9,Tryz.ntmps9
  go_wp2;go_ret
  exact⟨rfl,HF.out 0 (Int.le_refl _) (by omega),a9.out⟩
 have e:max room 0=room:=by omega
 rw[e];have a9:=HB room;have h1:=HR.out.2;clear HB e;go_enter Tryz.func9,Tryz.ntmps9
 go_wp2;go_ret
 exact⟨rfl,HF.out room h0 h1,a9.out⟩
end
section
open Go.RowKit Go.Maps Go.Sort Oct
theorem aO6:(Tryz.prog.info? 85).map (fun i=>(i.zero,i.size,i.bytes))=some (some (.agg #[.string ⟨#[]⟩,.slice none 0 0,.int .i64 0]),3,48):=by kernel_rfl
theorem aF5{P:Program}{w:World}{ops:Array Oper}{rest:List Oper}{o:Oper}{a:Act}{Q:Exit->Act->World->Prop}(hgd:o.guard=none)(s x:Operand)(t:TypeId)
  (ho:o.op=.call {callee:=.builtin .append,args:=#[s,x],argTypes:=#[t,t]})
  (base:Nat) (e:TypeId) (z:Value) (size bytes:Nat) (ht:P.underlying t=some (.slice e)) (hinfo:(P.info? e).map (fun i=>(i.zero,i.size,i.bytes))=some (some z,size,bytes)) (hzs:z.cells.size=size) (hsz:0<size)
  (v:Value) (n:Nat) (xs:List Value) (hs:a.eval s=v) (hown:w.ownsRow base e size v n xs)
  (ad:Addr) (m c:Nat) (news:List Value) (hx:a.eval x=.slice (some ad) m c) (hl:news.length=m*size) (hnews:∀j u,news[j]? =some u->w.cell? (ad.add j)=some u) (h1:∀u∈news,u.oneCell' =true)
  (h63:n+m<=maxLen) (hbytes:(n+m)*bytes<=140737488355328) (hbase:base<=w.heap.size)
  (h:∀v' w',w'.ownsRow base e size v' (n+m) (xs++news)->w.grownBy w' v.ownBlock->aR5 v' v.ownBlock w.heap.size->wpList P ops Q rest (a.put o.dst v') w'):wpList P ops Q (o::rest) a w:=
 wpList_plain hgd fun _ hK=>aI2 s x t ho base e z size bytes ht hinfo hzs hsz v n xs hs hown ad m c news hx hl hnews h1 h63 hbytes hbase fun v' w' h2 h3 h4=>hK _ _ (h v' w' h2 h3 h4)
theorem aG0{w:World}{g:Nat}{t:TypeId}{cs:List Value}(h:Blk w g t cs.toArray)(j:Nat)(u:Value)(hj:cs[j]? =some u):w.cell? ((⟨g,0,none⟩:Addr).add j)=some u:=by
 have a8:(⟨g,0,none⟩:Addr).add j=⟨g,j,none⟩:=by unfold Addr.add;split<;>simp_all
 rw[a8,h.cell]
 simpa using hj
def aO9(w:World)(base:Nat)(v:Value)(es:List (Nm×RF)):Prop:=w.ownsRow base 85 3 v es.length (aH3 es)
theorem aO9.nil(w:World)(base:Nat):aO9 w base (.slice none 0 0) []:=World.ownsRow_nil _ _ _ _
theorem aO9.lt{w:World}{base:Nat}{v:Value}{es:List (Nm×RF)}(h:aO9 w base v es):∀k,v.ownBlock=some k->base<=k∧k<w.heap.size:=World.ownsRow.lt h
theorem aO9.below{w w' :World}{base:Nat}{v:Value}{es:List (Nm×RF)}(h:aO9 w base v es)(hb:Below w.heap.size w w'):aO9 w' base v es:=bA0 h fun k hk=>hb.block k (h.lt k hk).2
theorem cH2{w:World}{base base' size n:Nat}{e:TypeId}{v:Value}{xs:List Value}(h:w.ownsRow base e size v n xs)(hb:base' <=base):w.ownsRow base' e size v n xs:=by
 refine⟨h.1,?_⟩;rcases h.2 with hn|⟨g',cap,a8,hv,a9,rest⟩
 ·exact .inl hn
 exact .inr ⟨g',cap,a8,hv,by omega,rest⟩
theorem aO9.shape{w:World}{base:Nat}{v:Value}{es:List (Nm×RF)}(h:aO9 w base v es):∃A c,v=.slice A es.length c:=by
 rcases h.2 with⟨hn,h0⟩|⟨b,cap,a8,hv,_⟩
 ·exact⟨none,0,by rw[hn,h0]⟩
 exact⟨_,cap,hv⟩
theorem aO9.push{w wr w2:World}{N:Nat}{v v' :Value}{l:List (Nm×RF)}{q:Nm×RF}{Ax:Option Addr}{cx:Nat}(hB:Below N w wr)(hN:N<=wr.heap.size)(hR:aO9 wr N v l)(hv:q.2.v=.slice Ax q.2.f.b.length cx){o:Obj}
  (a8:w2.ownsRow N 85 3 v' (l.length+1) (aH3 l++[.string (str q.1),.slice Ax q.2.f.b.length cx,.int .i64 q.2.f.safe])) (hg:(wr.alloc o).grownBy w2 v.ownBlock):aO9 w2 N v' (l++[q])∧Below N w w2:=by
 refine⟨?_,(hB.alloc hN o).grown hg (by simp;omega) (fun k hk=>(hR.lt k hk).1)⟩;unfold aO9;rw[bZ1,lT];unfold aO4;rw[hv];exact a8
section
variable{w w' :World}{base g:Nat}{p:PWD}{room:Int}{vL:Value}{es:List (Nm×RF)}
theorem aB0.setL(h:aB0 w base g p room vL es){wr:World}(hb:Below w.heap.size w wr){out:Value}{es' :List (Nm×RF)}(a9:aO9 wr w.heap.size out es')(a8:∀q∈es',Got w base q.2.v q.2.f.b)(b8:∀q∈es',q.2.f.safe<=q.2.f.b.length)(hr:aL2 es'):
  aB0 (wr.setCell ⟨g,0,none⟩ out) base g p room out es' ∧Fr (fun k=>k=g) w (wr.setCell ⟨g,0,none⟩ out):=by
 obtain⟨x,y,hB,f7⟩:=h.blk;have f8:base<=w.heap.size:=by have:=h.glt;have:=h.low;omega
 have f6:Blk wr g 74 _:=(hb.block g h.glt).trans hB;have d8:∀k,k≠g->(wr.setCell ⟨g,0,none⟩ out).heap[k]? =wr.heap[k]? :=fun k hk=>Below.heap_setCell wr ⟨g,0,none⟩ out k (by simpa using hk)
 have d9:(wr.setCell ⟨g,0,none⟩ out).heap.size=wr.heap.size:=by simp
 refine⟨h.row (by rw[d9];exact hb.size) (x:=x) (y:=y) (Blk.set_ f6 0 out) f7 ?_ (fun q hq=>?_) b8 hr,?_⟩
 ·refine cH2 (bA0 a9 fun k hk=>d8 k (fun e=>?_)) f8
  have:=(a9.lt k hk).1;have:=h.glt;omega
 ·refine((a8 q hq).below hb (lR _)).kept (fun k hk=>d8 k (fun e=>aF0 (a8 q hq) hB (by decide) (by rw[hk,e]))) (by rw[d9];exact lR _)
 exact(Fr.of_below (fun k=>k=g) hb).trans (mine' :=fun k=>k=g) (Fr.of_grown (aA0 wr g 0 out) (fun k e=>by injection e with e;exact e.symm)) (fun j hj=>.inl hj)
end
theorem bI2{α:Type}(n:Nm)(l:List (Nm×α)){k:Nat}(hk:k<l.length):aC2 n (l.take (k+1))=aC2 n (l.take k)++(if l[k].1=n then[] else[l[k]]):=by
 rw[List.take_succ_eq_append_getElem hk];unfold aC2;rw[List.filter_append];by_cases h:l[k].1=n<;>simp[h]
theorem aW2{α:Type}(n:Nm)(l:List (Nm×α)):(aC2 n l).length<=l.length:=List.length_filter_le _ _
theorem bG1{α:Type}{n:Nm}{l:List (Nm×α)}(h:aL2 l):aL2 (aC2 n l):=List.Pairwise.filter _ h
theorem cX7{w:World}{base g:Nat}{p:PWD}{room:Int}{vL:Value}{es:List (Nm×RF)}(h:aB0 w base g p room vL es)(n:Nm)(hl:es.length<=1099511627776):
  Calls Tryz.prog 133 #[.pointer (some ⟨g,0,none⟩),.string (str n)] w fun e w' =>(∃v,e=.returned v)∧∃vL',aB0 w' base g p room vL' (aC2 n es)∧Fr (fun k=>k=g) w w' ∧(∀k,aC1 g vL' (aC2 n es) k->aC1 g vL es k∨w.heap.size<=k):=by
 obtain⟨x,y,hb,_⟩:=h.blk;have g9:=qZ hb;obtain⟨A,c,j6,l8,l5,f9⟩:=h.shape;have j9:=qZ f9;have H:=qZ h;have f8:=h.glt;have l7:Hid (base<=w.heap.size):=qZ (by have:=h.low;omega);clear f9 hb h;subst j6;go_enter Tryz.func133,Tryz.ntmps133
 go_wp2_with fail
 go_loopw [4,5] (fun o i wr=>∃k:Nat,k<=es.length∧i=.int .i64 k∧Hid (aO9 wr w.heap.size o (aC2 n (es.take k)))∧Hid (Below w.heap.size w wr)) (fun _ i _=>es.length-(intOf i).toNat)
 case atStart=>exact⟨0,by omega,rfl,qZ (aO9.nil _ _),qZ (lS _ _)⟩
 obtain⟨k,hk,rfl,HR,HB⟩:=hrel;have c0:wr.cell? ⟨g,0,none⟩=some (.slice A es.length c):=(show Blk wr g 74 _ from(HB.out.block g f8).trans g9.out).cell 0;by_cases hlt:k<es.length
 rotate_left
 ·have f0:wr.frozen? ⟨g,0,none⟩=false:=(show Blk wr g 74 _ from(HB.out.block g f8).trans g9.out).frozen 0
  have e:es.take k=es:=List.take_of_length_le (by omega);have HF:=qZ (H.out.setL HB.out (by rw[<-e];exact HR.out) (fun q hq=>H.out.got q (aG8.1 hq).1) (fun q hq=>H.out.safe q (aG8.1 hq).1) (bG1 H.out.rising));obtain⟨Ao,co,i6⟩:=HR.out.shape;have HN:Hid (∀k,u4.ownBlock=some k->w.heap.size<=k):=qZ (fun k hk=>(HR.out.lt k hk).1);have l6:g<wr.heap.size:=by have:=HB.out.size;omega
  subst i6;clear e;go_wp2_with fail
  go_end0
  refine⟨⟨_,rfl⟩,_,HF.out.1,HF.out.2,fun k hk=>?_⟩;rcases hk with rfl|hk|⟨q,hq,hk⟩
  ·exact .inl (.inl rfl)
  ·exact .inr (HN.out k hk)
  exact .inl (.inr (.inr ⟨q,(aG8.1 hq).1,hk⟩))
 obtain⟨b,rfl,f7,q0,q1,q2,_⟩:=j9.out k hlt;have f6:=HB.out.cell (p:=⟨b,k*3,none⟩) f7;have b8:=HB.out.cell (p:=⟨b,k*3+1,none⟩) f7;have d9:=HB.out.cell (p:=⟨b,k*3+2,none⟩) f7;rw[q0] at f6;rw[q1] at b8;rw[q2] at d9;have a8:=bI2 n es hlt;have l4:(aC2 n (es.take k)).length<=k:=by have:=aW2 n (es.take k);rw[lV] at this;omega
 by_cases he:es[k].1=n
 ·rw[if_pos he,List.append_nil] at a8
  have HS:=qZ a8;have d8:((str es[k].1).toList==(str n).toList)=true:=by rw[aZ7];exact decide_eq_true he
  generalize es[k].1=nm at f6 d8
  clear he a8 q0 q1 q2 b8 d9;go_wp2_with fail
  go_roundw
  case rel=>exact⟨k+1,by omega,by go_num,qZ (by rw[HS.out];exact HR.out),HB⟩
  case measure=>simp[intOf];omega
 rw[if_neg he] at a8;have HS:=qZ a8;have d8:((str es[k].1).toList==(str n).toList)=false:=by rw[aZ7];exact decide_eq_false he
 obtain⟨Ax,cx,hv,_,_,_⟩:=(H.out.got es[k] (lX hlt)).shape;obtain⟨q,hq⟩:∃q,q=es[k]:=⟨_,rfl⟩
 rw[<-hq] at f6 b8 d9 d8 hv HS;rw[hv] at b8;have HV:=qZ hv;have HL:Hid (es.length<=1099511627776):=qZ hl;obtain⟨qn,qv,qb,qs⟩:=q;simp only at f6 b8 d9 d8;clear he a8 q0 q1 q2 hq hv;go_wp2_with (at_builtin;refine aF5 rfl (.tmp 25) (.tmp 33) 68 rfl w.heap.size 85 (.agg #[.string ⟨#[]⟩,.slice none 0 0,.int .i64 0]) 3 48 Tryz.underlying68 aO6 rfl (by decide) _ (aC2 n (es.take k)).length _ rfl (HR.out.below ((lS _ wr).alloc (lR _) _)) ⟨wr.heap.size,0,none⟩ 1 1 [.string (str qn),.slice Ax qb.length cx,.int .i64 qs] rfl rfl (aG0 (Blk.new wr 85 _)) (by simp[Value.oneCell']) (by have:=HL.out;unfold maxLen;omega) (by have:=HL.out;omega) (by have:=HB.out.size;simp;omega) ?_;intro v' w2 a9 g8 _)
 obtain⟨r1,r2⟩:=aO9.push (q:=(qn,⟨qv,⟨qb,qs⟩⟩)) HB.out HB.out.size HR.out HV.out a9 g8;rw[<-HS.out] at r1;have j8:=qZ r1;have i4:=qZ r2;clear r1 r2 a9 g8;go_roundw
 case rel=>exact⟨k+1,by omega,by go_num,j8,i4⟩
 case measure=>simp[intOf];omega
theorem bL5:∀a b:List UInt8,Op.bytesLess a b=bytesBefore a b
 |[],[]=>rfl
 |_::_,[]=>rfl
 |[],_::_=>rfl
 |a::x,b::y=>by simp only[Op.bytesLess,bytesBefore,bL5 x y]
theorem dI4{a b:Nm}(h:a≠b):(!(Op.bytesLess (str a).toList (str b).toList||(str a).toList==(str b).toList))=bytesBefore b a:=by
 rw[aZ7,aO0,aO0,bL5,decide_eq_false h,Bool.or_false];cases h1:bytesBefore a b with
 |true=>
  have:bytesBefore b a=false:=by
   cases h2:bytesBefore b a with
   |false=>rfl
   |true=>
    have:=WideShapes.bytes_trans _ _ _ h1 h2;rw[show bytesBefore a a=false from WideAt.bytes_irrefl a] at this;cases this
  rw[this];rfl
 |false=>
  rcases WideAt.bytes_total a b h with h2|h2
  ·rw[h1] at h2;cases h2
  rw[h2];rfl
section
variable{α:Type}
theorem bP6{x:Nm×α}:∀{d:List (Nm×α)},(∀q∈d,bytesBefore x.1 q.1=false)->asIns x d=d++[x]
 |[],_=>rfl
 |y::r,h=>by
  unfold asIns;rw[if_neg (by rw[h y (List.mem_cons_self ..)];simp),bP6 (fun q hq=>h q (List.mem_cons_of_mem _ hq))]
  rfl
theorem bO9{x y:Nm×α}:∀{d:List (Nm×α)},(∀q∈d,bytesBefore x.1 q.1=false)->bytesBefore x.1 y.1=true->asIns x (d++[y])=d++[x]++[y]
 |[],_,h=>by simp[asIns,h]
 |z::r,h,h2=>by
  rw[List.cons_append];unfold asIns;rw[if_neg (by rw[h z (List.mem_cons_self ..)];simp),bO9 (fun q hq=>h q (List.mem_cons_of_mem _ hq)) h2]
  rfl
theorem bN1{x y:Nm×α}:∀{d:List (Nm×α)},(∃q∈d,bytesBefore x.1 q.1=true)->asIns x (d++[y])=asIns x d++[y]
 |[],h=>by obtain⟨q,hq,_⟩:=h;cases hq
 |z::r,h=>by
  rw[List.cons_append];unfold asIns;by_cases hz:bytesBefore x.1 z.1=true
  ·rw[if_pos hz,if_pos hz];rfl
  rw[if_neg hz,if_neg hz,bN1]
  ·rfl
  obtain⟨q,hq,h1⟩:=h;rcases List.mem_cons.1 hq with rfl|hq
  ·exact absurd h1 hz
  exact⟨q,hq,h1⟩
theorem bG0{x:Nm×α}:∀{d:List (Nm×α)},aL2 d->(∀q∈d,q.1≠x.1)->aL2 (asIns x d)
 |[],_,_=>by simp[asIns,aL2]
 |y::r,h,hne=>by
  have h1:=List.pairwise_cons.1 h;unfold asIns;by_cases hb:bytesBefore x.1 y.1=true
  ·rw[if_pos hb]
   refine List.pairwise_cons.2 ⟨fun q hq=>?_,h⟩;rcases List.mem_cons.1 hq with rfl|hq
   ·exact hb
   exact WideShapes.bytes_trans _ _ _ hb (h1.1 q hq)
  rw[if_neg hb];refine List.pairwise_cons.2 ⟨fun q hq=>?_,bG0 h1.2 (fun q hq=>hne q (List.mem_cons_of_mem _ hq))⟩;rcases asIns_mem.1 hq with rfl|hq
  ·rcases WideAt.bytes_total y.1 q.1 (hne y (List.mem_cons_self ..)) with h2|h2
   ·exact h2
   exact absurd h2 hb
  exact h1.1 q hq
theorem bF6{n:Nm}{a:α}{l:List (Nm×α)}(h:aL2 l):aL2 (aB7 n a l):=bG0 (bG1 h) (fun q hq=>(aG8.1 hq).2)
def bL3(n:Nm)(f:α)(l:List (Nm×α))(dn:Bool)(out:List (Nm×α)):Prop:=
 (dn=false∧out=aC2 n l∧∀q∈l,bytesBefore n q.1=false)∨(dn=true∧out=aB7 n f l∧∃q∈aC2 n l,bytesBefore n q.1=true)
theorem aX1(n:Nm)(l:List (Nm×α))(y:Nm×α):aC2 n (l++[y])=aC2 n l++(if y.1=n then[] else[y]):=by
 unfold aC2;rw[List.filter_append];by_cases h:y.1=n<;>simp[h]
theorem cL3{n:Nm}{f:α}{l out:List (Nm×α)}{dn:Bool}{y:Nm×α}(h:bL3 n f l dn out)(hy:y.1=n):bL3 n f (l++[y]) dn out:=by
 have e:aC2 n (l++[y])=aC2 n l:=by rw[aX1,if_pos hy,List.append_nil]
 rcases h with⟨h1,h2,h3⟩|⟨h1,h2,h3⟩
 ·refine .inl ⟨h1,by rw[e,h2],fun q hq=>?_⟩
  rcases List.mem_append.1 hq with hq|hq
  ·exact h3 q hq
  rw[List.mem_singleton.1 hq,hy];exact WideAt.bytes_irrefl n
 exact .inr ⟨h1,by unfold aB7;rw[e,h2];rfl,by rw[e];exact h3⟩
theorem cD0{n:Nm}{f:α}{l out:List (Nm×α)}{y:Nm×α}(h:bL3 n f l true out)(hy:y.1≠n):bL3 n f (l++[y]) true (out++[y]):=by
 have e:aC2 n (l++[y])=aC2 n l++[y]:=by rw[aX1,if_neg hy]
 rcases h with⟨h1,_⟩|⟨_,h2,h3⟩
 ·cases h1
 refine .inr ⟨rfl,?_,?_⟩
 ·unfold aB7
  rw[e,bN1 h3,h2]
  rfl
 obtain⟨q,hq,h4⟩:=h3;exact⟨q,by rw[e];exact List.mem_append_left _ hq,h4⟩
theorem cN9{n:Nm}{f:α}{l out:List (Nm×α)}{y:Nm×α}(h:bL3 n f l false out)(hy:y.1≠n)(hb:bytesBefore n y.1=true):bL3 n f (l++[y]) true (out++[(n,f)]++[y]):=by
 have e:aC2 n (l++[y])=aC2 n l++[y]:=by rw[aX1,if_neg hy]
 rcases h with⟨_,h2,h3⟩|⟨h1,_⟩
 ·refine .inr ⟨rfl,?_,y,by rw[e];simp,hb⟩
  unfold aB7;rw[e,bO9 (fun q hq=>h3 q (aG8.1 hq).1) hb,h2]
 cases h1
theorem cV4{n:Nm}{f:α}{l out:List (Nm×α)}{y:Nm×α}(h:bL3 n f l false out)(hy:y.1≠n)(hb:bytesBefore n y.1=false):bL3 n f (l++[y]) false (out++[y]):=by
 have e:aC2 n (l++[y])=aC2 n l++[y]:=by rw[aX1,if_neg hy]
 rcases h with⟨_,h2,h3⟩|⟨h1,_⟩
 ·refine .inl ⟨rfl,by rw[e,h2],fun q hq=>?_⟩
  rcases List.mem_append.1 hq with hq|hq
  ·exact h3 q hq
  rw[List.mem_singleton.1 hq];exact hb
 cases h1
theorem bZ6{n:Nm}{f:α}{l out:List (Nm×α)}{dn:Bool}(h:bL3 n f l dn out):(if dn=true then out else out++[(n,f)])=aB7 n f l:=by
 rcases h with⟨rfl,h2,h3⟩|⟨rfl,h2,_⟩
 ·rw[if_neg (by simp),h2]
  unfold aB7;rw[bP6 (fun q hq=>h3 q (aG8.1 hq).1)]
 rw[if_pos rfl,h2]
theorem cZ3{n:Nm}{f:α}{l out:List (Nm×α)}{dn:Bool}(h:bL3 n f l dn out):out.length<=l.length+1:=by
 have:=aW2 n l;rcases h with⟨_,h2,_⟩|⟨_,h2,_⟩
 ·rw[h2];omega
 rw[h2];unfold aB7;rw[aM9];omega
end
end
section
open Go.RowKit Go.Maps Go.Sort Oct
theorem aO9.heap{w W:World}{base:Nat}{v:Value}{es:List (Nm×RF)}(h:aO9 w base v es)(e:W.heap=w.heap):aO9 W base v es:=bA0 h fun k _=>by rw[e]
theorem bH4{w:World}{base g:Nat}{p:PWD}{room:Int}{vL:Value}{es:List (Nm×RF)}(h:aB0 w base g p room vL es)(n:Nm)(f:RF)(f9:Got w base f.v f.f.b)(f8:f.f.safe<=f.f.b.length)(hl:es.length<=1099511627776):
  Calls Tryz.prog 37 #[.pointer (some ⟨g,0,none⟩),.agg #[.string (str n),f.v,.int .i64 f.f.safe]] w fun e w' =>(∃v,e=.returned v)∧∃vL',aB0 w' base g p room vL' (aB7 n f es)∧Fr (fun k=>k=g) w w' ∧(∀k,aC1 g vL' (aB7 n f es) k->aC1 g vL es k∨w.heap.size<=k∨f.v.ownBlock=some k):=by
 obtain⟨x,y,hb,_⟩:=h.blk;have m9:=qZ hb;obtain⟨A,c,o9,q8,p7,n7⟩:=h.shape;obtain⟨Af,cf,n6,_,_,_⟩:=f9.shape;have p6:=qZ n7;have H:=qZ h;have o5:=qZ f9;have o6:=qZ f8;have m4:=h.glt;have q6:Hid (base<=w.heap.size):=qZ (by have:=h.low;omega);clear n7 hb h f9 f8;subst o9;obtain⟨fv,fb,fs⟩:=f;simp only at n6;subst n6;have m3:=(lS w.heap.size w).alloc (lR _) (.cells #[.string (str n),.slice Af fb.length cf,.int .i64 (fs:Int)] 85);have n9:=qZ (Blk.new w 85 #[.string (str n),.slice Af fb.length cf,.int .i64 (fs:Int)]);obtain⟨w1,l8⟩:∃w1,w1=w.alloc (.cells #[.string (str n),.slice Af fb.length cf,.int .i64 (fs:Int)] 85):=⟨_,rfl⟩
 have p9:w1.heap.size=w.heap.size+1:=by rw[l8];simp
 rw[<-l8] at m3 n9;have i4:=qZ m3;have p0:=qZ l8;clear m3 l8;go_enter Tryz.func37,Tryz.ntmps37
 go_wp2_with fail
 rw[<-p0.out];go_loopw [4,5,6] (fun o dn i wr=>∃(k:Nat) (b:Bool) (out:List (Nm×RF)),k<=es.length∧i=.int .i64 k∧dn=.bool b∧Hid (bL3 n ⟨.slice Af fb.length cf,fb,fs⟩ (es.take k) b out)∧Hid (aO9 wr w1.heap.size o out)∧Hid (Below w1.heap.size w1 wr)) (fun _ _ i _=>es.length-(intOf i).toNat)
 case atStart=>exact⟨0,false,[],by omega,rfl,rfl,qZ (.inl ⟨rfl,rfl,by simp⟩),qZ (aO9.nil _ _),qZ (lS _ _)⟩
 obtain⟨k,dn,out,hk,rfl,rfl,HP,HR,HB⟩:=hrel;have l5:Hid (Below w.heap.size w wr):=qZ (i4.out.trans (HB.out.mono (by omega)));have i6:Blk wr g 74 _:=(l5.out.block g m4).trans m9.out;have c0:wr.cell? ⟨g,0,none⟩=some (.slice A es.length c):=i6.cell 0;have g8:Blk wr w.heap.size 85 _:=(HB.out.block w.heap.size (by omega)).trans n9.out;have k0:wr.cell? ⟨w.heap.size,0,none⟩=some (.string (str n)):=g8.cell 0;have k1:wr.cell? ⟨w.heap.size,1,none⟩=some (.slice Af fb.length cf):=g8.cell 1;have k2:wr.cell? ⟨w.heap.size,2,none⟩=some (.int .i64 (fs:Int)):=g8.cell 2;have n8:=cZ3 HP.out;have o7:out.length<=k+1:=by rw[lV] at n8;omega
 clear n8;by_cases hlt:k<es.length
 rotate_left
 ·have e:es.take k=es:=List.take_of_length_le (by omega)
  rw[e] at HP;clear e;have l4:∀(W:World) (g9:List (Nm×RF)) (v:Value),aO9 W w1.heap.size v g9->Below w1.heap.size w1 W->g9=aB7 n ⟨.slice Af fb.length cf,⟨fb,fs⟩⟩ es->(aB0 (W.setCell ⟨g,0,none⟩ v) base g p room v (aB7 n ⟨.slice Af fb.length cf,⟨fb,fs⟩⟩ es)∧Fr (fun k=>k=g) w (W.setCell ⟨g,0,none⟩ v))∧(∀k,aC1 g v (aB7 n ⟨.slice Af fb.length cf,⟨fb,fs⟩⟩ es) k->aC1 g (.slice A es.length c) es k∨w.heap.size<=k∨(Value.slice Af fb.length cf).ownBlock=some k):=by
   intro W g9 v h1 h2 h3;subst h3;have o4:=h1.lt;refine⟨?_,fun k hk=>?_⟩
   ·have h4:=aB0.setL (H.out.below i4.out) h2 h1 (fun q hq=>?_) (fun q hq=>?_) (bF6 H.out.rising)
    ·exact⟨h4.1,(Fr.of_below _ i4.out).trans h4.2 (fun j hj=>.inl hj)⟩
    ·rcases asPut_mem.1 hq with rfl|⟨hq,_⟩
     ·exact o5.out.below i4.out (lR _)
     exact(H.out.got q hq).below i4.out (lR _)
    rcases asPut_mem.1 hq with rfl|⟨hq,_⟩
    ·exact o6.out
    exact H.out.safe q hq
   rcases hk with rfl|hk|⟨q,hq,hk⟩
   ·exact .inl (.inl rfl)
   ·exact .inr (.inl (by have:=(o4 k hk).1;omega))
   rcases asPut_mem.1 hq with rfl|⟨hq,_⟩
   ·exact .inr (.inr hk)
   exact .inl (.inr (.inr ⟨q,hq,hk⟩))
  have l6:=qZ l4;clear l4;have f0:wr.frozen? ⟨g,0,none⟩=false:=i6.frozen 0;have HL:Hid (es.length<=1099511627776):=qZ hl;have p8:g<wr.heap.size:=by have:=l5.out.size;omega
  cases dn with
  |true=>
   have HE:=qZ (bZ6 HP.out);rw[if_pos rfl] at HE;obtain⟨Ao,co,m5⟩:=HR.out.shape;subst m5;clear g8 i6;go_wp2_with fail
   go_end0
   obtain⟨z1,z2⟩:=l6.out _ _ _ HR.out HB.out HE.out;exact⟨⟨_,rfl⟩,_,z1.1,z1.2,z2⟩
  |false=>
   have HE:=qZ (bZ6 HP.out);rw[if_neg (by simp)] at HE;clear g8 i6;go_wp2_with (at_builtin;refine aF5 rfl (.tmp 58) (.tmp 60) 68 rfl w1.heap.size 85 (.agg #[.string ⟨#[]⟩,.slice none 0 0,.int .i64 0]) 3 48 Tryz.underlying68 aO6 rfl (by decide) _ out.length _ rfl (aO9.below (w:=wr) HR.out ((lS _ _).alloc (lR _) _)) ⟨wr.heap.size,0,none⟩ 1 1 [.string (str n),.slice Af fb.length cf,.int .i64 fs] rfl rfl (aG0 (Blk.new _ 85 _)) (by simp[Value.oneCell']) (by have:=HL.out;unfold maxLen;(try simp only[lT,mC,List.length_nil]);omega) (by have:=HL.out;(try simp only[lT,mC,List.length_nil]);omega) (by have:=HB.out.size;simp;omega) ?_;intro v2 w2 a8 b8 _;obtain⟨r1,r2⟩:=aO9.push (wr:=wr) (q:=(n,⟨.slice Af fb.length cf,⟨fb,fs⟩⟩)) HB.out HB.out.size HR.out rfl a8 b8;obtain⟨o2,f6⟩:∃o2:List (Nm×RF),o2=out++[(n,⟨.slice Af fb.length cf,⟨fb,fs⟩⟩)]:=⟨_,rfl⟩;have m7:o2.length<=k+2:=(by rw[f6,lT,List.length_singleton];omega);rw[<-f6] at r1;have n4:=qZ f6;clear f6;have f7:=qZ r1;have d9:=qZ r2;have a9:Below w.heap.size w w2:=i4.out.trans (r2.mono (by omega));clear r1 r2 a8 b8 HR;have m2:Blk w2 g 74 _:=(a9.block g m4).trans m9.out;have d0:=m2.cell 0;have g0:w2.frozen? ⟨g,0,none⟩=false:=m2.frozen 0;have p4:g<w2.heap.size:=m2.lt;clear a9 m2;obtain⟨Ao,co,m5⟩:=f7.out.shape;subst m5)
   go_end0
   obtain⟨z1,z2⟩:=l6.out _ _ _ f7.out d9.out (n4.out.trans HE.out);exact⟨⟨_,rfl⟩,_,z1.1,z1.2,z2⟩
 obtain⟨b,rfl,j6,q0,q1,q2,_⟩:=p6.out k hlt;have m0:=l5.out.cell (p:=⟨b,k*3,none⟩) j6;have l7:=l5.out.cell (p:=⟨b,k*3+1,none⟩) j6;have l9:=l5.out.cell (p:=⟨b,k*3+2,none⟩) j6;rw[q0] at m0;rw[q1] at l7;rw[q2] at l9;have j8:es.take (k+1)=es.take k++[es[k]]:=List.take_succ_eq_append_getElem hlt;by_cases he:es[k].1=n
 ·have HS:=qZ (cL3 HP.out he)
  rw[<-j8] at HS;have j9:((str es[k].1).toList==(str n).toList)=true:=by rw[aZ7];exact decide_eq_true he
  generalize es[k].1=nm at m0 j9
  clear he j8 q0 q1 q2 l7 l9 k1 k2 i6 g8;go_wp2_with fail
  go_quiet (fail);go_wp2_with fail
  go_roundw
  case rel=>exact⟨k+1,dn,out,by omega,by go_num,rfl,HS,qZ (show aO9 wr _ _ _ from HR.out),qZ (aA3 HB.out _)⟩
  case measure=>simp[intOf];omega
 have j9:((str es[k].1).toList==(str n).toList)=false:=by rw[aZ7];exact decide_eq_false he
 have d8:=dI4 he;rw[j9,Bool.or_false] at d8;obtain⟨Ax,cx,hv,_,_,_⟩:=(H.out.got es[k] (lX hlt)).shape;obtain⟨q,hq⟩:∃q,q=es[k]:=⟨_,rfl⟩
 rw[<-hq] at m0 l7 l9 j9 d8 hv he j8;rw[hv] at l7;have HV:=qZ hv;have HE:=qZ he;have m8:=qZ j8;have HL:Hid (es.length<=1099511627776):=qZ hl;obtain⟨qn,qv,qb,qs⟩:=q;simp only at m0 l7 l9 j9 d8;have HQ:=qZ (And.intro q0 (And.intro q1 q2));rw[<-hq,hv] at HQ;clear he j8 q0 q1 q2 hq hv i6 g8;cases dn with
 |true=>
  have HS:=qZ (cD0 HP.out HE.out);rw[<-m8.out] at HS;clear d8 k1 k2;go_wp2_with fail
  go_quiet (fail);go_wp2_with fail
  go_quiet (fail);go_wp2_with (at_builtin;go_must (refine aF5 rfl (.tmp 46) (.tmp 54) 68 rfl w1.heap.size 85 (.agg #[.string ⟨#[]⟩,.slice none 0 0,.int .i64 0]) 3 48 Tryz.underlying68 aO6 rfl (by decide) _ out.length _ rfl (aO9.below (w:=wr.drewN _) (aO9.heap HR.out rfl) ((lS _ _).alloc (lR _) _)) ⟨wr.heap.size,0,none⟩ 1 1 [.string (str qn),.slice Ax qb.length cx,.int .i64 qs] rfl rfl (aG0 (Blk.new _ 85 _)) (by simp[Value.oneCell']) (by have:=HL.out;unfold maxLen;omega) (by have:=HL.out;omega) (by have:=HB.out.size;simp;omega) ?_;intro v2 w2 a8 b8 _))
  obtain⟨r1,r2⟩:=aO9.push (wr:=wr.drewN _) (q:=(qn,⟨qv,⟨qb,qs⟩⟩)) (aA3 HB.out _) HB.out.size (aO9.heap HR.out rfl) HV.out a8 b8;have f7:=qZ r1;have d9:=qZ r2;clear r1 r2 a8 b8;go_roundw
  case rel=>exact⟨k+1,true,_,by omega,by go_num,rfl,HS,f7,d9⟩
  case measure=>simp[intOf];omega
 |false=>
  cases hbb:bytesBefore n qn with
  |false=>
   have HS:=qZ (cV4 HP.out HE.out hbb);rw[<-m8.out] at HS;rw[hbb] at d8;have m6:Op.bytesLess (str qn).toList (str n).toList=true:=by simpa using d8
   clear d8 k1 k2 hbb;go_wp2_with fail
   go_quiet (fail);go_wp2_with fail
   go_quiet (fail);go_wp2_with (at_builtin;go_must (refine aF5 rfl (.tmp 46) (.tmp 54) 68 rfl w1.heap.size 85 (.agg #[.string ⟨#[]⟩,.slice none 0 0,.int .i64 0]) 3 48 Tryz.underlying68 aO6 rfl (by decide) _ out.length _ rfl (aO9.below (w:=wr.drewN _) (aO9.heap HR.out rfl) ((lS _ _).alloc (lR _) _)) ⟨wr.heap.size,0,none⟩ 1 1 [.string (str qn),.slice Ax qb.length cx,.int .i64 qs] rfl rfl (aG0 (Blk.new _ 85 _)) (by simp[Value.oneCell']) (by have:=HL.out;unfold maxLen;omega) (by have:=HL.out;omega) (by have:=HB.out.size;simp;omega) ?_;intro v2 w2 a8 b8 _))
   obtain⟨r1,r2⟩:=aO9.push (wr:=wr.drewN _) (q:=(qn,⟨qv,⟨qb,qs⟩⟩)) (aA3 HB.out _) HB.out.size (aO9.heap HR.out rfl) HV.out a8 b8;have f7:=qZ r1;have d9:=qZ r2;clear r1 r2 a8 b8;go_roundw
   case rel=>exact⟨k+1,false,_,by omega,by go_num,rfl,HS,f7,d9⟩
   case measure=>simp[intOf];omega
  |true=>
   have HS:=qZ (cN9 HP.out HE.out hbb);rw[<-m8.out] at HS;rw[hbb] at d8;have m6:Op.bytesLess (str qn).toList (str n).toList=false:=by simpa using d8
   clear d8 hbb;go_wp2_with fail
   go_quiet (fail);go_wp2_with fail
   go_quiet (fail)
   go_wp2_with (first|(at_builtin;refine aF5 rfl (.tmp 42) (.tmp 44) 68 rfl w1.heap.size 85 (.agg #[.string ⟨#[]⟩,.slice none 0 0,.int .i64 0]) 3 48 Tryz.underlying68 aO6 rfl (by decide) _ out.length _ rfl (aO9.below (w:=wr.drewN _) (aO9.heap HR.out rfl) ((lS _ _).alloc (lR _) _)) ⟨wr.heap.size,0,none⟩ 1 1 [.string (str n),.slice Af fb.length cf,.int .i64 fs] rfl rfl (aG0 (Blk.new _ 85 _)) (by simp[Value.oneCell']) (by have:=HL.out;unfold maxLen;(try simp only[lT,mC,List.length_nil]);omega) (by have:=HL.out;(try simp only[lT,mC,List.length_nil]);omega) (by have:=HB.out.size;simp;omega) ?_;intro v2 w2 a8 b8 _;obtain⟨r1,r2⟩:=aO9.push (wr:=wr.drewN _) (q:=(n,⟨.slice Af fb.length cf,⟨fb,fs⟩⟩)) (aA3 HB.out _) HB.out.size (aO9.heap HR.out rfl) rfl a8 b8;obtain⟨o2,f6⟩:∃o2:List (Nm×RF),o2=out++[(n,⟨.slice Af fb.length cf,⟨fb,fs⟩⟩)]:=⟨_,rfl⟩;have m7:o2.length<=k+2:=(by rw[f6,lT,List.length_singleton];omega);rw[<-f6] at r1;have n4:=qZ f6;clear f6;have f7:=qZ r1;have d9:=qZ r2;have a9:Below w.heap.size w w2:=i4.out.trans (r2.mono (by omega));clear r1 r2 a8 b8 HR;have d0:=(show Blk w2 g 74 _ from(a9.block g m4).trans m9.out).cell 0;have e0:=a9.cell (p:=⟨b,k*3,none⟩) j6;have e1:=a9.cell (p:=⟨b,k*3+1,none⟩) j6;have e2:=a9.cell (p:=⟨b,k*3+2,none⟩) j6;rw[HQ.out.1] at e0;rw[HQ.out.2.1] at e1;rw[HQ.out.2.2] at e2;clear a9)|(at_builtin;refine aF5 rfl (.tmp 46) (.tmp 54) 68 rfl w1.heap.size 85 (.agg #[.string ⟨#[]⟩,.slice none 0 0,.int .i64 0]) 3 48 Tryz.underlying68 aO6 rfl (by decide) _ o2.length _ rfl (aO9.below (w:=w2) f7.out ((lS _ _).alloc (lR _) _)) ⟨w2.heap.size,0,none⟩ 1 1 [.string (str qn),.slice Ax qb.length cx,.int .i64 qs] rfl rfl (aG0 (Blk.new _ 85 _)) (by simp[Value.oneCell']) (by have:=HL.out;unfold maxLen;(try simp only[lT,mC,List.length_nil]);omega) (by have:=HL.out;(try simp only[lT,mC,List.length_nil]);omega) (by have:=d9.out.size;simp;omega) ?_;intro v3 w3 a8 n5 _))
   obtain⟨r1,r2⟩:=aO9.push (wr:=w2) (q:=(qn,⟨qv,⟨qb,qs⟩⟩)) d9.out d9.out.size f7.out HV.out a8 n5;rw[n4.out] at r1;have p5:=qZ r1;have o8:=qZ r2;clear r1 r2 a8 n5;go_roundw
   case rel=>exact⟨k+1,true,_,by omega,by go_num,rfl,HS,p5,o8⟩
   case measure=>simp[intOf];omega
end
section
open Go.RowKit Go.Maps Go.Sort Oct
section
variable{w w1 w2:World}{base g:Nat}{p p' :PWD}{room:Int}{vL vL' :Value}{es es' :List (Nm×RF)}
theorem aX0{n:Nm}(h:aB6 n es=none):aB6 n (sec RF.f es)=none:=by rw[aH6,h];rfl
theorem aN0{n:Nm}{fe:RF}(h:aB6 n es=some fe):aB6 n (sec RF.f es)=some fe.f:=by rw[aH6,h];rfl
theorem bT0(h:p.cut.1=true):p.armed=true∧p.cut.2.1=p.part:=by
 unfold PWD.cut at h⊢;split at h
 ·cases h
 split at h
 ·cases h
 rename_i h1 h2
 rw[if_neg h1,if_neg h2];exact⟨by simpa using h1,rfl⟩
theorem aX5{fs:List (Nm×FD)}(hf1:Fr (aC1 g vL es) w w1)(h2:aB0 w2 base g p' room vL' es')(hs:sec RF.f es' =fs)(hf2:Fr (aC1 g vL es) w1 w2)(hk:∀k,aC1 g vL' es' k->aC1 g vL es k∨w1.heap.size<=k):RTo w base g vL es ⟨p',room,fs⟩ w2:=
 ⟨vL',es',h2,hs,hf1.trans hf2 (fun j hj=>.inl hj),fun k hkk=>by
  rcases hk k hkk with h5|h5
  ·exact .inl h5
  exact .inr (Nat.le_trans hf1.size h5)⟩
theorem aW5{d:DkD}{fs:List (Nm×FD)}(h:d.pw.cut.1=false∨d.pw.cut.2.1 %2=1):d.whole fs=(if d.pw.cut.1=true then 50 else 0,⟨d.pw.cut.2.2,d.room,fs⟩):=by
 have hc:d.pw.cut.1=false∨d.pw.cut.2.1 %2≠0:=by
  rcases h with h|h
  ·exact .inl h
  exact .inr (by omega)
 unfold DkD.whole;simp only[if_pos hc]
theorem bV2{d:DkD}{fs:List (Nm×FD)}(h:d.pw.cut.1=true)(h2:d.pw.cut.2.1 %2≠1):d.whole fs=(50,⟨d.pw.cut.2.2,d.room,d.fs⟩):=by
 have hc:¬(d.pw.cut.1=false∨d.pw.cut.2.1 %2≠0):=by rw[h];simp;omega
 unfold DkD.whole;simp only[if_pos h,if_neg hc]
theorem cF1(h:aB0 w base g p room vL es)(n:Nm)(hl:es.length<=1099511627776):
  Calls Tryz.prog 85 #[.pointer (some ⟨g,0,none⟩),.string (str n)] w fun e w' =>e=.returned (.int .i64 ((aJ1 p room es).remove n).1)∧RTo w base g vL es ((aJ1 p room es).remove n).2 w' :=by
 obtain⟨x,y,hb,d8,hx,hy⟩:=h.blk;obtain⟨⟨c0,c1,c2,c3,c4,c5⟩,_⟩:=bN7 hb;have H:=qZ h;have d9:=qZ (bD3 h n (by omega));have HY:=qZ hy;have l9:=qZ d8;by_cases ho:p.off=true
 ·have e:(aJ1 p room es).remove n=(50,aJ1 p room es):=by unfold DkD.remove;rw[if_pos ho]
  rw[e];rw[ho] at c2;clear h e hb d8 hx hy;go_enter Tryz.func85,Tryz.ntmps85
  go_wp2_with fail
  refine d9.out.mono ?_;rintro e w' ⟨rfl,rfl⟩;go_wp2_with fail
  go_ret
  exact⟨rfl,RTo.mk' H.out (Fr.refl _ _)⟩
 have l7:p.off=false:=by simpa using ho
 cases hg:aB6 n es with
 |none=>
  have e:(aJ1 p room es).remove n=(51,aJ1 p room es):=by unfold DkD.remove;rw[if_neg ho];simp only[aX0 hg]
  rw[e];rw[l7] at c2;have ek:=aM1 hg;rw[ek] at d9;clear h e hb d8 hx hy ek;go_enter Tryz.func85,Tryz.ntmps85
  go_wp2_with fail
  refine d9.out.mono ?_;rintro e w' ⟨rfl,rfl⟩;go_wp2_with fail
  go_ret
  exact⟨rfl,RTo.mk' H.out (Fr.refl _ _)⟩
 |some fe=>
  obtain⟨k,hk,ek,j8⟩:=aO1 hg;have e:(aJ1 p room es).remove n=(aJ1 p room es).whole (aC2 n (sec RF.f es)):=by unfold DkD.remove;rw[if_neg ho];simp only[aN0 hg]
  rw[ek] at d9;rw[l7] at c2;have a8:=qZ (bA4 h);have l8:¬((k:Int)<0):=by omega
  have f7:Hid (∀w1,aB0 w1 base g p.cut.2.2 room vL es->Calls Tryz.prog 133 #[.pointer (some ⟨g,0,none⟩),.string (str n)] w1 fun e w' =>(∃v,e=.returned v)∧∃j6,aB0 w' base g p.cut.2.2 room j6 (aC2 n es)∧Fr (fun k=>k=g) w1 w' ∧(∀k,aC1 g j6 (aC2 n es) k->aC1 g vL es k∨w1.heap.size<=k)):=qZ (fun w1 h1=>cX7 h1 n hl);cases hgo:p.cut.1 with
  |false=>
   have e2:=aW5 (d:=aJ1 p room es) (fs:=aC2 n (sec RF.f es)) (.inl hgo);rw[e,e2,hgo];rw[hgo] at a8;clear h e e2 hb d8 hx hy ek j8 hgo;go_enter Tryz.func85,Tryz.ntmps85
   go_wp2_with fail
   refine d9.out.mono ?_;rintro e w' ⟨rfl,rfl⟩;go_wp2_with fail
   refine a8.out.mono ?_;rintro e w1 ⟨rfl,a9,b8,_⟩;have l5:=qZ b8;have g8:=qZ (f7.out w1 a9);clear a9 b8 a8 f7;go_wp2_with fail
   refine g8.out.mono ?_;rintro e w2 ⟨⟨v,rfl⟩,j6,f8,f6,f9⟩;have HR:=qZ (aX5 l5.out f8 (aQ5 RF.f n es) (f6.mono (fun j _ e=>.inl e)) f9);clear f8 f6 f9 g8;have g9:=qZ (aI6 false w2);go_wp2_with fail
   refine g9.out.mono ?_;rintro e w' ⟨rfl,rfl⟩;go_wp2_with fail
   go_ret
   exact⟨rfl,HR.out⟩
  |true=>
   obtain⟨l4,j9⟩:=bT0 hgo;have i6:y=p.cut.2.1:=by rw[j9];exact(d8 l4).2
   have i4:=fun W:World=>qZ (bS5 y 2 hy (by omega) W)
   by_cases h2:y %2=1
   ·have e2:=aW5 (d:=aJ1 p room es) (fs:=aC2 n (sec RF.f es)) (.inr (by show p.cut.2.1 %2=1;rw[<-i6];exact h2))
    rw[e,e2,hgo];rw[hgo] at a8;rw[h2] at i4;clear h e e2 hb d8 hx hy ek j8 hgo h2 i6 l4 j9;go_enter Tryz.func85,Tryz.ntmps85
    go_wp2_with fail
    refine d9.out.mono ?_;rintro e w' ⟨rfl,rfl⟩;go_wp2_with fail
    refine a8.out.mono ?_;rintro e w1 ⟨rfl,a9,b8,_⟩;have l5:=qZ b8;have g8:=qZ (f7.out w1 a9);clear a9 b8 a8 f7;go_wp2_with fail
    refine(i4 w1).out.mono ?_;rintro e w' ⟨rfl,rfl⟩;go_wp2_with fail
    refine g8.out.mono ?_;rintro e w2 ⟨⟨v,rfl⟩,j6,f8,f6,f9⟩;have HR:=qZ (aX5 l5.out f8 (aQ5 RF.f n es) (f6.mono (fun j _ e=>.inl e)) f9);clear f8 f6 f9 g8;have g9:=qZ (aI6 true w2);go_wp2_with fail
    refine g9.out.mono ?_;rintro e w' ⟨rfl,rfl⟩;go_wp2_with fail
    go_ret
    exact⟨rfl,HR.out⟩
   have e2:=bV2 (d:=aJ1 p room es) (fs:=aC2 n (sec RF.f es)) hgo (by show p.cut.2.1 %2≠1;rw[<-i6];exact h2);rw[e,e2];rw[hgo] at a8;obtain⟨y2,l6⟩:∃y2,y2=y %2:=⟨_,rfl⟩
   rw[<-l6] at h2 i4;clear h e e2 hb d8 hx hy ek j8 hgo i6 l4 j9 l6 f7;go_enter Tryz.func85,Tryz.ntmps85
   go_wp2_with fail
   refine d9.out.mono ?_;rintro e w' ⟨rfl,rfl⟩;go_wp2_with fail
   refine a8.out.mono ?_;rintro e w1 ⟨rfl,a9,b8,_⟩;have HR:=qZ (aX5 (Fr.refl _ _) a9 rfl b8 (fun k hk=>.inl hk));have g9:=qZ (aI6 true w1);clear a9 b8 a8;go_wp2_with fail
   refine(i4 w1).out.mono ?_;rintro e w' ⟨rfl,rfl⟩;go_wp2_with fail
   refine g9.out.mono ?_;rintro e w' ⟨rfl,rfl⟩;go_wp2_with fail
   go_ret
   exact⟨rfl,HR.out⟩
theorem aU6{α:Type}{a:α}:∀{l:List (Nm×α)} (hr:aL2 l) {k:Nat} (hk:k<l.length),aB7 l[k].1 a l=l.set k (l[k].1,a)
 |[],_,k,hk=>by simp at hk
 |y::r,hr,k,hk=>by
  have h1:=List.pairwise_cons.1 hr;have hne:∀q∈r,q.1≠y.1:=fun q hq e=>by
   have:=h1.1 q hq;rw[e,show bytesBefore y.1 y.1=false from WideAt.bytes_irrefl _] at this;cases this
  cases k with
  |zero=>
   simp only[List.getElem_cons_zero,List.set_cons_zero];unfold aB7 aC2;rw[List.filter_cons_of_neg (by simp),List.filter_eq_self.2 (fun q hq=>by simpa using hne q hq)];cases r with
   |nil=>rfl
   |cons z r=>
    unfold asIns;rw[if_pos (h1.1 z (List.mem_cons_self ..))]
  |succ k=>
   have hk' :k<r.length:=by simpa using hk
   simp only[List.getElem_cons_succ,List.set_cons_succ];have ih:=aU6 (a:=a) h1.2 hk';unfold aB7 aC2 at ih⊢;have h2:=h1.1 r[k] (lX hk');rw[List.filter_cons_of_pos (by simpa using(hne _ (lX hk')).symm)];unfold asIns;rw[if_neg (fun h3=>by
    have:=WideShapes.bytes_trans _ _ _ h2 h3;rw[show bytesBefore y.1 y.1=false from WideAt.bytes_irrefl _] at this;cases this)]
   rw[ih]
theorem aB0.setRow{b c:Nat}(h:aB0 w base g p room (.slice (some ⟨b,0,none⟩) es.length c) es){k:Nat}(hk:k<es.length)(q' :RF)(st:List Value->List Value)(g9:∀l,(st l).length=l.length)(hw:∀i,i≠b->w2.heap[i]? =w.heap[i]?)(f9:w2.heap.size=w.heap.size)(f8:w2.os=w.os∧w2.tape=w.tape∧w2.output=w.output)
  (hb:∀d9,Blk w b 85 d9->∃a8,Blk w2 b 85 a8∧a8.size=d9.size∧∀N,a8.toList.take N=st (d9.toList.take N)) (hq:st (aH3 es)=aH3 (es.set k (es[k].1,q'))) (f6:Got w base q'.v q'.f.b) (b8:q'.f.safe<=q'.f.b.length)
  (a9:∀i,q'.v.ownBlock=some i->aC1 g (.slice (some ⟨b,0,none⟩) es.length c) es i∨w1.heap.size<=i):
  aB0 w2 base g p room (.slice (some ⟨b,0,none⟩) es.length c) (aB7 es[k].1 q' es)∧Fr (aC1 g (.slice (some ⟨b,0,none⟩) es.length c) es) w w2∧
  (∀i,aC1 g (.slice (some ⟨b,0,none⟩) es.length c) (aB7 es[k].1 q' es) i->aC1 g (.slice (some ⟨b,0,none⟩) es.length c) es i∨w1.heap.size<=i):=by
 have f7:=aU6 (a:=q') h.rising hk;have d8:=bF6 (n:=es[k].1) (a:=q') h.rising;obtain⟨x,y,hB,j6⟩:=h.blk;have l4:base<=b:=(World.ownsRow.lt h.own b rfl).1;have j8:g≠b:=fun e=>aS0 h.own hB (by decide) (by rw[e];rfl)
 have g8:∀q:Nm×RF,Got w base q.2.v q.2.f.b->Got w2 base q.2.v q.2.f.b:=fun q hq=>hq.kept (fun i hi=>hw i (fun e=>bP2 h.own hq (by decide) i hi (by rw[e];rfl))) (by rw[f9];exact lR _)
 refine⟨⟨⟨x,y,(hw g j8).trans hB,j6⟩,?_,fun q hq=>?_,fun q hq=>?_,d8,h.low,h.num⟩,⟨f8.1,f8.2.1,f8.2.2,by rw[f9];exact lR _,fun i _ hm=>hw i (fun e=>hm (.inr (.inl (by rw[e];rfl))))⟩,fun i hi=>?_⟩
 ·rw[f7,<-hq,List.length_set]
  refine⟨by rw[g9,cE0],.inr ?_⟩;rcases h.own.2 with⟨hn,_⟩|⟨b',cap,d9,hv,_,j9,hc,i6,i4,hx⟩
  ·cases hn
  injection hv with hv1 _ hv3
  injection hv1 with hv1
  injection hv1 with hv1
  subst hv1 hv3;obtain⟨a8,h1,h2,h3⟩:=hb d9 j9;exact⟨b,c,a8,rfl,l4,h1,hc,i6,by rw[h2];exact i4,by rw[h3,hx]⟩
 ·rcases asPut_mem.1 hq with rfl|⟨hq,_⟩
  ·exact g8 (es[k].1,q') f6
  exact g8 q (h.got q hq)
 ·rcases asPut_mem.1 hq with rfl|⟨hq,_⟩
  ·exact b8
  exact h.safe q hq
 rcases hi with rfl|hi|⟨q,hq,hi⟩
 ·exact .inl (.inl rfl)
 ·exact .inl (.inr (.inl hi))
 rcases asPut_mem.1 hq with rfl|⟨hq,_⟩
 ·exact a9 i hi
 exact .inl (.inr (.inr ⟨q,hq,hi⟩))
theorem aU3(cur:Array Value)(i:Nat)(u:Value)(N:Nat):(cur.setIfInBounds i u).toList.take N=(cur.toList.take N).set i u:=by rw[Array.toList_setIfInBounds,List.take_set]
theorem aB0.setFile{b c:Nat}(h:aB0 w base g p room (.slice (some ⟨b,0,none⟩) es.length c) es){k:Nat}(hk:k<es.length){j:Nat}(hj:j<3)(u:Value)(q' :RF)(hq:aO4 (es[k].1,q')=(aO4 es[k]).set j u)(hgot:Got w base q'.v q'.f.b)(hsafe:q'.f.safe<=q'.f.b.length)
  (hfoot:∀i,q'.v.ownBlock=some i->aC1 g (.slice (some ⟨b,0,none⟩) es.length c) es i∨w1.heap.size<=i):
  aB0 (w.setCell ⟨b,k*3+j,none⟩ u) base g p room (.slice (some ⟨b,0,none⟩) es.length c) (aB7 es[k].1 q' es)∧Fr (aC1 g (.slice (some ⟨b,0,none⟩) es.length c) es) w (w.setCell ⟨b,k*3+j,none⟩ u)∧
  (∀i,aC1 g (.slice (some ⟨b,0,none⟩) es.length c) (aB7 es[k].1 q' es) i->aC1 g (.slice (some ⟨b,0,none⟩) es.length c) es i∨w1.heap.size<=i):=
 h.setRow hk q' (fun l=>l.set (k*3+j) u) (fun l=>List.length_set ..) (fun i hi=>Below.heap_setCell w ⟨b,k*3+j,none⟩ u i (by simpa using hi)) (by simp) ⟨(aA0 w b (k*3+j) u).os,(aA0 w b (k*3+j) u).tape,(aA0 w b (k*3+j) u).output⟩
  (fun cur hc=>⟨_,Blk.set_ hc (k*3+j) u,by simp,fun N=>aU3 cur _ u N⟩) (aY9 es hk hj u (es[k].1,q') hq) hgot hsafe hfoot
theorem aB0.setBoth{b c:Nat}(h:aB0 w base g p room (.slice (some ⟨b,0,none⟩) es.length c) es){k:Nat}(hk:k<es.length)(q' :RF)(b8:Got w base q'.v q'.f.b)(a9:q'.f.safe<=q'.f.b.length)(nt:Nat)
  (a8:∀i,q'.v.ownBlock=some i->aC1 g (.slice (some ⟨b,0,none⟩) es.length c) es i∨w1.heap.size<=i):
  aB0 (((w.setCell ⟨b,k*3+1,none⟩ q'.v).drewN nt).setCell ⟨b,k*3+2,none⟩ (.int .i64 q'.f.safe)) base g p room (.slice (some ⟨b,0,none⟩) es.length c) (aB7 es[k].1 q' es)∧Fr (aC1 g (.slice (some ⟨b,0,none⟩) es.length c) es) w (((w.setCell ⟨b,k*3+1,none⟩ q'.v).drewN nt).setCell ⟨b,k*3+2,none⟩ (.int .i64 q'.f.safe))∧
  (∀i,aC1 g (.slice (some ⟨b,0,none⟩) es.length c) (aB7 es[k].1 q' es) i->aC1 g (.slice (some ⟨b,0,none⟩) es.length c) es i∨w1.heap.size<=i):=by
 have d8:=aA4 (aK4 (aA0 w b (k*3+1) q'.v) nt) (aA0 ((w.setCell ⟨b,k*3+1,none⟩ q'.v).drewN nt) b (k*3+2) (.int .i64 q'.f.safe)) (.inl rfl);refine h.setRow hk q' (fun l=>(l.set (k*3+1) q'.v).set (k*3+2) (.int .i64 q'.f.safe)) (fun l=>by rw[List.length_set,List.length_set]) (fun i hi=>?_) (by simp) ⟨d8.os,d8.tape,d8.output⟩ (fun cur hc=>?_) ?_ b8 a9 a8
 ·rw[Below.heap_setCell _ ⟨b,k*3+2,none⟩ _ i (by simpa using hi)]
  exact Below.heap_setCell w ⟨b,k*3+1,none⟩ q'.v i (by simpa using hi)
 ·exact⟨_,Blk.set_ ((Blk.set_ hc (k*3+1) q'.v).drewN nt) (k*3+2) _,by simp,fun N=>by rw[aU3,aU3]⟩
 have h1:=aY9 es hk (j:=1) (by omega) q'.v (es[k].1,⟨q'.v,es[k].2.f⟩) (by simp[aO4]);have d9:k<(es.set k (es[k].1,⟨q'.v,es[k].2.f⟩)).length:=by simpa using hk
 have h2:=aY9 (es.set k (es[k].1,⟨q'.v,es[k].2.f⟩)) d9 (j:=2) (by omega) (.int .i64 q'.f.safe) (es[k].1,q') (by simp[aO4]);show((aH3 es).set (k*3+1) q'.v).set (k*3+2) (.int .i64 q'.f.safe)=_
 rw[h1,h2,List.set_set]
theorem cY2(h:aB0 w base g p room vL es)(n:Nm)(hl:es.length<=1099511627776):
  Calls Tryz.prog 90 #[.pointer (some ⟨g,0,none⟩),.string (str n)] w fun e w' =>e=.returned (.int .i64 ((aJ1 p room es).sync n).1)∧RTo w base g vL es ((aJ1 p room es).sync n).2 w' :=by
 obtain⟨x,y,hb,f8,hx,hy⟩:=h.blk;obtain⟨⟨c0,c1,c2,c3,c4,c5⟩,_⟩:=bN7 hb;have H:=qZ h;have f6:=qZ (bD3 h n (by omega));by_cases ho:p.off=true
 ·have e:(aJ1 p room es).sync n=(50,aJ1 p room es):=by unfold DkD.sync;rw[if_pos ho]
  rw[e];rw[ho] at c2;clear h e hb f8 hx hy;go_enter Tryz.func90,Tryz.ntmps90
  go_wp2_with fail
  refine f6.out.mono ?_;rintro e w' ⟨rfl,rfl⟩;go_wp2_with fail
  go_ret
  exact⟨rfl,RTo.mk' H.out (Fr.refl _ _)⟩
 have j6:p.off=false:=by simpa using ho
 cases hg:aB6 n es with
 |none=>
  have e:(aJ1 p room es).sync n=(51,aJ1 p room es):=by unfold DkD.sync;rw[if_neg ho];simp only[aX0 hg]
  rw[e];rw[j6] at c2;have ek:=aM1 hg;rw[ek] at f6;clear h e hb f8 hx hy ek;go_enter Tryz.func90,Tryz.ntmps90
  go_wp2_with fail
  refine f6.out.mono ?_;rintro e w' ⟨rfl,rfl⟩;go_wp2_with fail
  go_ret
  exact⟨rfl,RTo.mk' H.out (Fr.refl _ _)⟩
 |some fe=>
  obtain⟨k,hk,ek,b8⟩:=aO1 hg;rw[ek] at f6;rw[j6] at c2;have d9:=qZ (bA4 h);have l6:¬((k:Int)<0):=by omega
  cases hgo:p.cut.1 with
  |true=>
   have e:(aJ1 p room es).sync n=(50,⟨p.cut.2.2,room,sec RF.f es⟩):=by unfold DkD.sync;rw[if_neg ho];simp only[aN0 hg];rw[if_pos hgo]
   rw[e];rw[hgo] at d9;clear h e hb f8 hx hy ek b8 hgo;go_enter Tryz.func90,Tryz.ntmps90
   go_wp2_with fail
   refine f6.out.mono ?_;rintro e w' ⟨rfl,rfl⟩;go_wp2_with fail
   refine d9.out.mono ?_;rintro e w1 ⟨rfl,a9,f7,_⟩;have HR:=qZ (aX5 (Fr.refl _ _) a9 rfl f7 (fun k hk=>.inl hk));have g8:=qZ (aI6 true w1);clear a9 f7 d9;go_wp2_with fail
   refine g8.out.mono ?_;rintro e w' ⟨rfl,rfl⟩;go_wp2_with fail
   go_ret
   exact⟨rfl,HR.out⟩
  |false=>
   have e:(aJ1 p room es).sync n=(0,⟨p.cut.2.2,room,aB7 n ⟨fe.f.b,fe.f.b.length⟩ (sec RF.f es)⟩):=by unfold DkD.sync;rw[if_neg ho];simp only[aN0 hg];rw[if_neg (by rw[hgo];simp)]
   rw[e];rw[hgo] at d9;have HL:Hid (es.length<=1099511627776):=qZ hl;clear h e hb f8 hx hy ek hgo hl;go_enter Tryz.func90,Tryz.ntmps90
   go_wp2_with fail
   refine f6.out.mono ?_;rintro e w' ⟨rfl,rfl⟩;go_wp2_with fail
   refine d9.out.mono ?_;rintro e w1 ⟨rfl,a9,f7,_⟩;obtain⟨A,c,rfl,l9,l8,i4⟩:=a9.shape;obtain⟨b,rfl,l4,q0,q1,q2,g1,g2⟩:=i4 k hk;obtain⟨x1,y1,g9,_⟩:=a9.blk;have d0:=g9.cell 0;have a8:es[k]∈es:=lX hk;obtain⟨Ax,cx,hv,i6,_,_⟩:=(a9.got _ a8).shape;have j9:=a9.safe _ a8;have d8:=fun nt=>qZ ((a9.drewN_ nt).setFile (w1:=w1) hk (j:=2) (by omega) (.int .i64 (fe.f.b.length:Int)) ⟨fe.v,⟨fe.f.b,fe.f.b.length⟩⟩ (by rw[b8];simp[aO4]) (by have:=a9.got _ a8;rw[b8] at this;exact this.kept (fun _ _=>rfl) (lR _)) (lR _) (fun i hi=>.inl (.inr (.inr ⟨_,a8,by rw[b8];exact hi⟩))))
   have l5:=qZ f7;have f9:Hid (sec RF.f (aB7 es[k].1 ⟨fe.v,⟨fe.f.b,fe.f.b.length⟩⟩ es)=aB7 n ⟨fe.f.b,fe.f.b.length⟩ (sec RF.f es)):=qZ (by rw[aJ2,b8]);rw[hv,b8] at q1;rw[b8] at i6;have j8:b<w1.heap.size:=l4;simp only at q1 i6;have l7:=qZ b8;clear a9 f7 d9 g9 i4 hv a8 j9 q0 b8;go_wp2_with fail
   refine aB3 16 (by kernel_rfl) (by kernel_rfl) ?_;simp only[List.take_succ_cons,List.take_zero,List.drop_succ_cons,List.drop_zero]
   iterate 16 go_big_quiet_step (fail)
   refine wpQuiet_nil ?_;rintro _ ⟨nt,rfl⟩;go_wp2_with fail
   have HR:=qZ (aX5 l5.out (d8 nt).out.1 f9.out (((Fr.refl _ _).drewN_ nt).trans (d8 nt).out.2.1 (fun j hj=>.inl hj)) (d8 nt).out.2.2);have g8:=qZ (aI6 false ((w1.drewN nt).setCell ⟨b,k*3+2,none⟩ (.int .i64 (fe.f.b.length:Int))));refine g8.out.mono ?_;rintro e w' ⟨rfl,rfl⟩;go_wp2_with fail
   go_ret
   exact⟨rfl,HR.out⟩
end
end
section
open Go.RowKit Go.Maps Go.Sort Oct
theorem bM4{n:Nm}(h:n≠[]):(str n).toList.isEmpty=false:=by
 rw[aO0];exact List.isEmpty_eq_false_iff.2 h
theorem Got.cutTo{w:World}{base:Nat}{A:Option Addr}{n c m:Nat}{l:List UInt8}(h:Got w base (.slice A n c) l)(hm:m<=l.length):Got w base (.slice A m c) (l.take m):=by
 obtain⟨A',c',hv,h1,h2,h3⟩:=h.shape;injection hv with e1 e2 e3
 subst e1 e3;have hl:(l.take m).length=m:=by rw[lV];omega
 refine⟨⟨A,c,by rw[hl],by omega,h2,by unfold cells;rw[List.map_take];exact Rd.take h3 m⟩,?_⟩;rcases h.row with hr|⟨g',n',cap,a9,a8,hb,hk,h4,h5,h6⟩
 ·injection hr with r1 r2 r3
  subst r1 r3;have:m=0:=by omega
  subst this;exact .inl rfl
 injection a8 with r1 r2 r3
 subst r1 r3;exact .inr ⟨g',m,c,a9,rfl,hb,hk,h4,by omega,h6⟩
theorem bT8(A:Option Addr)(n n' c c' :Nat):(Value.slice A n c).ownBlock=(Value.slice A n' c').ownBlock:=by cases A<;>rfl
section
variable{w w1 w2:World}{base g:Nat}{p p' :PWD}{room:Int}{vL vL' :Value}{es es' :List (Nm×RF)}
theorem dB9(h:aB0 w base g p room vL es)(n:Nm)(z:Int)(hz:-9223372036854775808<=z∧z<=9223372036854775807)(hl:es.length<=549755813888):
  Calls Tryz.prog 76 #[.pointer (some ⟨g,0,none⟩),.string (str n),.int .i64 z] w fun e w' =>e=.returned (.int .i64 ((aJ1 p room es).cutF n z).1)∧RTo w base g vL es ((aJ1 p room es).cutF n z).2 w' :=by
 obtain⟨x,y,hb,l4,hx,hy⟩:=h.blk;obtain⟨⟨c0,c1,c2,c3,c4,c5⟩,_⟩:=bN7 hb;have i6:=qZ (bD3 h n (by omega));have HR:=qZ (RTo.mk' h (Fr.refl (aC1 g vL es) w));by_cases ho:p.off=true
 ·have e:(aJ1 p room es).cutF n z=(50,aJ1 p room es):=by unfold DkD.cutF;rw[if_pos ho]
  rw[e];rw[ho] at c2;clear h e hb l4 hx hy;go_enter Tryz.func76,Tryz.ntmps76
  go_wp2_with fail
  refine i6.out.mono ?_;rintro e w' ⟨rfl,rfl⟩;go_wp2_with fail
  go_ret
  exact⟨rfl,HR.out⟩
 have n8:p.off=false:=by simpa using ho
 cases hg:aB6 n es with
 |none=>
  have e:(aJ1 p room es).cutF n z=(51,aJ1 p room es):=by unfold DkD.cutF;rw[if_neg ho];simp only[aX0 hg]
  rw[e];rw[n8] at c2;have ek:=aM1 hg;rw[ek] at i6;clear h e hb l4 hx hy ek;go_enter Tryz.func76,Tryz.ntmps76
  go_wp2_with fail
  refine i6.out.mono ?_;rintro e w' ⟨rfl,rfl⟩;go_wp2_with fail
  go_ret
  exact⟨rfl,HR.out⟩
 |some fe=>
  obtain⟨k,hk,ek,j9⟩:=aO1 hg;rw[ek] at i6;rw[n8] at c2;have o6:¬((k:Int)<0):=by omega
  obtain⟨A,c,n9,p4,o8,n6⟩:=h.shape;obtain⟨b,hA,o5,q0,q1,q2,g1,g2⟩:=n6 k hk;obtain⟨Ax,cx,hv,n7,p0,_⟩:=(h.got _ (lX hk)).shape;rw[j9] at q1 q2 hv n7;simp only at hv n7 q1 q2;rw[hv] at q1;have g8:=qZ hv;subst n9;subst hA;have o9:w.cell? ⟨g,0,none⟩=some (.slice (some ⟨b,0,none⟩) es.length c):=c0;clear c0 n6 q0 hv;by_cases hbad:z<0∨(fe.f.b.length:Int)<z
  ·have e:(aJ1 p room es).cutF n z=(1,aJ1 p room es):=by unfold DkD.cutF;rw[if_neg ho];simp only[aN0 hg];rw[if_pos hbad]
   rw[e];clear h e hb l4 hx hy ek j9 hg;by_cases h1:z<0
   ·clear hbad
    go_enter Tryz.func76,Tryz.ntmps76
    go_wp2_with fail
    refine i6.out.mono ?_;rintro e w' ⟨rfl,rfl⟩;go_wp2_with fail
    go_ret
    exact⟨rfl,HR.out⟩
   have h2:(fe.f.b.length:Int)<z:=by omega
   clear hbad;go_enter Tryz.func76,Tryz.ntmps76
   go_wp2_with fail
   refine i6.out.mono ?_;rintro e w' ⟨rfl,rfl⟩;go_wp2_with fail
   go_ret
   exact⟨rfl,HR.out⟩
  have e:(aJ1 p room es).cutF n z=(aJ1 p room es).whole (aB7 n ⟨fe.f.b.take z.toNat,min fe.f.safe z.toNat⟩ (sec RF.f es)):=by unfold DkD.cutF;rw[if_neg ho];simp only[aN0 hg];rw[if_neg hbad]
  have h1:¬z<0:=fun h=>hbad (.inl h)
  have h2:¬(fe.f.b.length:Int)<z:=fun h=>hbad (.inr h)
  obtain⟨m,rfl⟩:∃m:Nat,z=(m:Int):=⟨z.toNat,by omega⟩
  simp only[Int.toNat_natCast] at e;have HL:Hid (es.length<=549755813888):=qZ hl;clear hbad hl g1 g2 o5;have g9:=qZ (bA4 h);have i4:es[k]∈es:=lX hk;have b8:Hid ((n,fe)∈es):=qZ (by rw[<-j9];exact i4);have l5:=qZ j9;have l6:=fun W:World=>qZ (bS5 y 2 hy (by omega) W)
  have o7:=qZ h;rw[e];cases hgo:p.cut.1 with
  |false=>
   have e2:=aW5 (d:=aJ1 p room es) (fs:=aB7 n ⟨fe.f.b.take m,min fe.f.safe m⟩ (sec RF.f es)) (.inl hgo);rw[e2,hgo];rw[hgo] at g9;clear h e e2 hb l4 hx hy ek j9 hgo i4 hg HR l6;go_enter Tryz.func76,Tryz.ntmps76
   go_wp2_with fail
   refine i6.out.mono ?_;rintro e w' ⟨rfl,rfl⟩;go_wp2_with fail
   refine g9.out.mono ?_;rintro e w1 ⟨rfl,hD1,hF1,-⟩;obtain⟨A1,c1,d9,m8,n4,f7⟩:=hD1.shape;obtain⟨b1,m0,m5,r0,r1,r2,s1,s2⟩:=f7 k hk;rw[m0] at d9;obtain⟨rfl,rfl⟩:b=b1∧c=c1:=by injection d9 with e1 _ e2;injection e1 with e1;injection e1 with e1;exact⟨e1,e2⟩
   obtain⟨x1,y1,j8,_⟩:=hD1.blk;have d0:=j8.cell 0;rw[l5.out] at r1 r2;simp only at r1 r2;rw[g8.out] at r1;have l9:w1.cell? ⟨g,0,none⟩=some (.slice (some ⟨b,0,none⟩) es.length c):=d0;have m6:g≠b:=fun e=>aS0 hD1.own j8 (by decide) (by rw[e];rfl)
   have m2:=qZ hF1;have f6:=qZ hD1;have hcut:=fun W:World=>aQ2 (P:=Tryz.prog) Tryz.underlying34 aC6 Ax fe.f.b.length cx 0 m (by omega) (by omega) 0 (m:Int) rfl rfl W
   clear f7 j8 hD1 hF1 g9 d0 d9 m0 r0;go_wp2_with fail
   refine aB3 17 (by kernel_rfl) (by kernel_rfl) ?_;simp only[List.take_succ_cons,List.take_zero,List.drop_succ_cons,List.drop_zero]
   iterate 17 go_big_quiet_step (fail)
   refine wpQuiet_nil ?_;rintro _ ⟨nt,rfl⟩;go_wp2_with fail
   obtain⟨W1,d8⟩:∃W1,W1=(w1.drewN nt).setCell ⟨b,k*3+1,none⟩ (.slice Ax m cx):=⟨_,rfl⟩
   have l8:(⟨b,k*3+1,none⟩:Addr)≠⟨g,0,none⟩:=by intro e;injection e with e;exact m6 e.symm
   have m3:(⟨b,k*3+1,none⟩:Addr)≠⟨b,k*3+2,none⟩:=by intro e;injection e with _ e;omega
   have e0:W1.cell? ⟨g,0,none⟩=some (.slice (some ⟨b,0,none⟩) es.length c):=by rw[d8,World.cell?_setCell_other (h:=l8)];exact l9
   have e2:W1.cell? ⟨b,k*3+2,none⟩=some (.int .i64 fe.f.safe):=by rw[d8,World.cell?_setCell_other (h:=m3)];exact r2
   have t2:W1.frozen? ⟨b,k*3+2,none⟩=false:=by rw[d8,World.frozen?_setCell];exact s2
   have o4:W1.heap.size=w1.heap.size:=by rw[d8];simp
   rw[<-d8];have l7:=qZ d8;clear l9 r1 r2 s1 s2 d8 hcut l8 m3;by_cases hms:(m:Int)<=(fe.f.safe:Int)
   ·refine aB3 17 (by kernel_rfl) (by kernel_rfl) ?_
    simp only[List.take_succ_cons,List.take_zero,List.drop_succ_cons,List.drop_zero]
    iterate 17 go_big_quiet_step (fail)
    refine wpQuiet_nil ?_;rintro _ ⟨f9,rfl⟩;go_wp2_with fail
    have a9:min fe.f.safe m=m:=by omega
    have f8:Got (w1.drewN nt) base (.slice Ax m cx) (fe.f.b.take m):=by
     have h1:=f6.out.got _ b8.out;simp only at h1;rw[g8.out] at h1;exact(Got.cutTo h1 (by omega)).kept (fun _ _=>rfl) (lR _)
    have a8:=aB0.setBoth (w:=w1.drewN nt) (w1:=w1) (f6.out.drewN_ nt) hk ⟨.slice Ax m cx,⟨fe.f.b.take m,min fe.f.safe m⟩⟩ f8 (by have:=f6.out.safe _ b8.out;simp only[lV];simp only at this;omega) f9 (fun i hi=>.inl (.inr (.inr ⟨_,b8.out,by show fe.v.ownBlock=some i;rw[g8.out,bT8 Ax fe.f.b.length m cx cx];exact hi⟩)));simp only[a9] at a8;rw[<-l7.out] at a8;have HR:=qZ (aX5 (fs:=aB7 n ⟨fe.f.b.take m,min fe.f.safe m⟩ (sec RF.f es)) m2.out a8.1 (by rw[aJ2,l5.out,a9]) (((Fr.refl _ _).drewN_ nt).trans a8.2.1 (fun j hj=>.inl hj)) a8.2.2);clear a8 f8 a9;have j6:=qZ (aI6 false ((W1.drewN f9).setCell ⟨b,k*3+2,none⟩ (.int .i64 (m:Int))));go_wp2_with fail
    refine j6.out.mono ?_;rintro e w' ⟨rfl,rfl⟩;go_wp2_with fail
    go_ret
    exact⟨rfl,HR.out⟩
   refine aB3 17 (by kernel_rfl) (by kernel_rfl) ?_;simp only[List.take_succ_cons,List.take_zero,List.drop_succ_cons,List.drop_zero]
   iterate 17 go_big_quiet_step (fail)
   refine wpQuiet_nil ?_;rintro _ ⟨f9,rfl⟩;go_wp2_with fail
   have a9:min fe.f.safe m=fe.f.safe:=by omega
   have f8:Got (w1.drewN nt) base (.slice Ax m cx) (fe.f.b.take m):=by
    have h1:=f6.out.got _ b8.out;simp only at h1;rw[g8.out] at h1;exact(Got.cutTo h1 (by omega)).kept (fun _ _=>rfl) (lR _)
   have a8:=aB0.setBoth (w:=w1.drewN nt) (w1:=w1) (f6.out.drewN_ nt) hk ⟨.slice Ax m cx,⟨fe.f.b.take m,min fe.f.safe m⟩⟩ f8 (by have:=f6.out.safe _ b8.out;simp only[lV];simp only at this;omega) f9 (fun i hi=>.inl (.inr (.inr ⟨_,b8.out,by show fe.v.ownBlock=some i;rw[g8.out,bT8 Ax fe.f.b.length m cx cx];exact hi⟩)));simp only[a9] at a8;rw[<-l7.out] at a8;have HR:=qZ (aX5 (fs:=aB7 n ⟨fe.f.b.take m,min fe.f.safe m⟩ (sec RF.f es)) m2.out a8.1 (by rw[aJ2,l5.out,a9]) (((Fr.refl _ _).drewN_ nt).trans a8.2.1 (fun j hj=>.inl hj)) a8.2.2);clear a8 f8 a9;have j6:=qZ (aI6 false ((W1.drewN f9).setCell ⟨b,k*3+2,none⟩ (.int .i64 (fe.f.safe:Int))));go_wp2_with fail
   refine j6.out.mono ?_;rintro e w' ⟨rfl,rfl⟩;go_wp2_with fail
   go_ret
   exact⟨rfl,HR.out⟩
  |true=>
   obtain⟨m9,m7⟩:=bT0 hgo;have m4:y=p.cut.2.1:=by rw[m7];exact(l4 m9).2
   by_cases h2:y %2=1
   rotate_left
   ·have e2:=bV2 (d:=aJ1 p room es) (fs:=aB7 n ⟨fe.f.b.take m,min fe.f.safe m⟩ (sec RF.f es)) hgo (by show p.cut.2.1 %2≠1;rw[<-m4];exact h2)
    rw[e2];rw[hgo] at g9;obtain⟨y2,n5⟩:∃y2,y2=y %2:=⟨_,rfl⟩
    rw[<-n5] at h2 l6;clear h e e2 hb l4 hx hy ek j9 hgo m4 m9 m7 n5 i4 hg HR;go_enter Tryz.func76,Tryz.ntmps76
    go_wp2_with fail
    refine i6.out.mono ?_;rintro e w' ⟨rfl,rfl⟩;go_wp2_with fail
    refine g9.out.mono ?_;rintro e w1 ⟨rfl,hD1,hF1,-⟩;have HR:=qZ (aX5 (Fr.refl _ _) hD1 rfl hF1 (fun k hk=>.inl hk));clear hD1 hF1 g9;go_wp2_with fail
    refine(l6 w1).out.mono ?_;rintro e w' ⟨rfl,rfl⟩;have j6:=qZ (aI6 true w1);go_wp2_with fail
    refine j6.out.mono ?_;rintro e w' ⟨rfl,rfl⟩;go_wp2_with fail
    go_ret
    exact⟨rfl,HR.out⟩
   have e2:=aW5 (d:=aJ1 p room es) (fs:=aB7 n ⟨fe.f.b.take m,min fe.f.safe m⟩ (sec RF.f es)) (.inr (by show p.cut.2.1 %2=1;rw[<-m4];exact h2));rw[e2,hgo];rw[hgo] at g9;rw[h2] at l6;clear h e e2 hb l4 hx hy ek j9 hgo h2 m4 m9 m7 i4 hg HR;go_enter Tryz.func76,Tryz.ntmps76
   go_wp2_with fail
   refine i6.out.mono ?_;rintro e w' ⟨rfl,rfl⟩;go_wp2_with fail
   refine g9.out.mono ?_;rintro e w1 ⟨rfl,hD1,hF1,-⟩;obtain⟨A1,c1,d9,m8,n4,f7⟩:=hD1.shape;obtain⟨b1,m0,m5,r0,r1,r2,s1,s2⟩:=f7 k hk;rw[m0] at d9;obtain⟨rfl,rfl⟩:b=b1∧c=c1:=by injection d9 with e1 _ e2;injection e1 with e1;injection e1 with e1;exact⟨e1,e2⟩
   obtain⟨x1,y1,j8,_⟩:=hD1.blk;have d0:=j8.cell 0;rw[l5.out] at r1 r2;simp only at r1 r2;rw[g8.out] at r1;have l9:w1.cell? ⟨g,0,none⟩=some (.slice (some ⟨b,0,none⟩) es.length c):=d0;have m6:g≠b:=fun e=>aS0 hD1.own j8 (by decide) (by rw[e];rfl)
   have m2:=qZ hF1;have f6:=qZ hD1;have hcut:=fun W:World=>aQ2 (P:=Tryz.prog) Tryz.underlying34 aC6 Ax fe.f.b.length cx 0 m (by omega) (by omega) 0 (m:Int) rfl rfl W
   clear f7 j8 hD1 hF1 g9 d0 d9 m0 r0;go_wp2_with fail
   refine(l6 w1).out.mono ?_;rintro e w' ⟨rfl,rfl⟩;go_wp2_with fail
   refine aB3 17 (by kernel_rfl) (by kernel_rfl) ?_;simp only[List.take_succ_cons,List.take_zero,List.drop_succ_cons,List.drop_zero]
   iterate 17 go_big_quiet_step (fail)
   refine wpQuiet_nil ?_;rintro _ ⟨nt,rfl⟩;go_wp2_with fail
   obtain⟨W1,d8⟩:∃W1,W1=(w1.drewN nt).setCell ⟨b,k*3+1,none⟩ (.slice Ax m cx):=⟨_,rfl⟩
   have l8:(⟨b,k*3+1,none⟩:Addr)≠⟨g,0,none⟩:=by intro e;injection e with e;exact m6 e.symm
   have m3:(⟨b,k*3+1,none⟩:Addr)≠⟨b,k*3+2,none⟩:=by intro e;injection e with _ e;omega
   have e0:W1.cell? ⟨g,0,none⟩=some (.slice (some ⟨b,0,none⟩) es.length c):=by rw[d8,World.cell?_setCell_other (h:=l8)];exact l9
   have e2:W1.cell? ⟨b,k*3+2,none⟩=some (.int .i64 fe.f.safe):=by rw[d8,World.cell?_setCell_other (h:=m3)];exact r2
   have t2:W1.frozen? ⟨b,k*3+2,none⟩=false:=by rw[d8,World.frozen?_setCell];exact s2
   have o4:W1.heap.size=w1.heap.size:=by rw[d8];simp
   rw[<-d8];have l7:=qZ d8;clear l9 r1 r2 s1 s2 d8 hcut l8 m3;by_cases hms:(m:Int)<=(fe.f.safe:Int)
   ·refine aB3 17 (by kernel_rfl) (by kernel_rfl) ?_
    simp only[List.take_succ_cons,List.take_zero,List.drop_succ_cons,List.drop_zero]
    iterate 17 go_big_quiet_step (fail)
    refine wpQuiet_nil ?_;rintro _ ⟨f9,rfl⟩;go_wp2_with fail
    have a9:min fe.f.safe m=m:=by omega
    have f8:Got (w1.drewN nt) base (.slice Ax m cx) (fe.f.b.take m):=by
     have h1:=f6.out.got _ b8.out;simp only at h1;rw[g8.out] at h1;exact(Got.cutTo h1 (by omega)).kept (fun _ _=>rfl) (lR _)
    have a8:=aB0.setBoth (w:=w1.drewN nt) (w1:=w1) (f6.out.drewN_ nt) hk ⟨.slice Ax m cx,⟨fe.f.b.take m,min fe.f.safe m⟩⟩ f8 (by have:=f6.out.safe _ b8.out;simp only[lV];simp only at this;omega) f9 (fun i hi=>.inl (.inr (.inr ⟨_,b8.out,by show fe.v.ownBlock=some i;rw[g8.out,bT8 Ax fe.f.b.length m cx cx];exact hi⟩)));simp only[a9] at a8;rw[<-l7.out] at a8;have HR:=qZ (aX5 (fs:=aB7 n ⟨fe.f.b.take m,min fe.f.safe m⟩ (sec RF.f es)) m2.out a8.1 (by rw[aJ2,l5.out,a9]) (((Fr.refl _ _).drewN_ nt).trans a8.2.1 (fun j hj=>.inl hj)) a8.2.2);clear a8 f8 a9;have j6:=qZ (aI6 true ((W1.drewN f9).setCell ⟨b,k*3+2,none⟩ (.int .i64 (m:Int))));go_wp2_with fail
    refine j6.out.mono ?_;rintro e w' ⟨rfl,rfl⟩;go_wp2_with fail
    go_ret
    exact⟨rfl,HR.out⟩
   refine aB3 17 (by kernel_rfl) (by kernel_rfl) ?_;simp only[List.take_succ_cons,List.take_zero,List.drop_succ_cons,List.drop_zero]
   iterate 17 go_big_quiet_step (fail)
   refine wpQuiet_nil ?_;rintro _ ⟨f9,rfl⟩;go_wp2_with fail
   have a9:min fe.f.safe m=fe.f.safe:=by omega
   have f8:Got (w1.drewN nt) base (.slice Ax m cx) (fe.f.b.take m):=by
    have h1:=f6.out.got _ b8.out;simp only at h1;rw[g8.out] at h1;exact(Got.cutTo h1 (by omega)).kept (fun _ _=>rfl) (lR _)
   have a8:=aB0.setBoth (w:=w1.drewN nt) (w1:=w1) (f6.out.drewN_ nt) hk ⟨.slice Ax m cx,⟨fe.f.b.take m,min fe.f.safe m⟩⟩ f8 (by have:=f6.out.safe _ b8.out;simp only[lV];simp only at this;omega) f9 (fun i hi=>.inl (.inr (.inr ⟨_,b8.out,by show fe.v.ownBlock=some i;rw[g8.out,bT8 Ax fe.f.b.length m cx cx];exact hi⟩)));simp only[a9] at a8;rw[<-l7.out] at a8;have HR:=qZ (aX5 (fs:=aB7 n ⟨fe.f.b.take m,min fe.f.safe m⟩ (sec RF.f es)) m2.out a8.1 (by rw[aJ2,l5.out,a9]) (((Fr.refl _ _).drewN_ nt).trans a8.2.1 (fun j hj=>.inl hj)) a8.2.2);clear a8 f8 a9;have j6:=qZ (aI6 true ((W1.drewN f9).setCell ⟨b,k*3+2,none⟩ (.int .i64 (fe.f.safe:Int))));go_wp2_with fail
   refine j6.out.mono ?_;rintro e w' ⟨rfl,rfl⟩;go_wp2_with fail
   go_ret
   exact⟨rfl,HR.out⟩
end
end
section
open Go.RowKit Go.Maps Go.Sort Oct
section
variable{w w1 w2:World}{base g:Nat}{p p' :PWD}{room:Int}{vL vL' :Value}{es es' :List (Nm×RF)}
theorem bO8(h:aB0 w base g p room vL es)(n:Nm)(hl:es.length<=1099511627776)(d8:∀q∈es,q.2.f.b.length<=549755813888):
  Calls Tryz.prog 130 #[.pointer (some ⟨g,0,none⟩),.string (str n)] w fun e w' =>∃v,e=.returned (.tuple #[v,.int .i64 ((aJ1 p room es).read n).2])∧Got w' w.heap.size v ((aJ1 p room es).read n).1∧Below w.heap.size w w' :=by
 obtain⟨x,y,hb,f6,hx,hy⟩:=h.blk;obtain⟨⟨c0,c1,c2,c3,c4,c5⟩,_⟩:=bN7 hb;have b8:=qZ (bD3 h n (by omega));by_cases ho:p.off=true
 ·have e:(aJ1 p room es).read n=([],50):=by unfold DkD.read;rw[if_pos ho]
  rw[e];rw[ho] at c2;clear h e hb f6 hx hy d8;go_enter Tryz.func130,Tryz.ntmps130
  go_wp2_with fail
  refine b8.out.mono ?_;rintro e w' ⟨rfl,rfl⟩;go_wp2_with fail
  go_ret2
  exact⟨_,rfl,.of_own (Own.nil _ _ _),lS _ _⟩
 have i4:p.off=false:=by simpa using ho
 cases hg:aB6 n es with
 |none=>
  have e:(aJ1 p room es).read n=([],51):=by unfold DkD.read;rw[if_neg ho];simp only[aX0 hg]
  rw[e];rw[i4] at c2;have ek:=aM1 hg;rw[ek] at b8;clear h e hb f6 hx hy ek d8;go_enter Tryz.func130,Tryz.ntmps130
  go_wp2_with fail
  refine b8.out.mono ?_;rintro e w' ⟨rfl,rfl⟩;go_wp2_with fail
  go_ret2
  exact⟨_,rfl,.of_own (Own.nil _ _ _),lS _ _⟩
 |some fe=>
  obtain⟨k,hk,ek,d9⟩:=aO1 hg;have e:(aJ1 p room es).read n=(fe.f.b,0):=by unfold DkD.read;rw[if_neg ho];simp only[aN0 hg]
  rw[e];rw[ek] at b8;rw[i4] at c2;have l6:¬((k:Int)<0):=by omega
  have l9:(k:Int)<(es.length:Int):=by omega
  have a9:(n,fe)∈es:=by rw[<-d9];exact lX hk
  obtain⟨A,c,rfl,m3,l7,f9⟩:=h.shape;obtain⟨b,rfl,hbl,q0,q1,q2,-,-⟩:=f9 k hk;obtain⟨Ax,cx,hv,j6,m2,f7⟩:=(h.got _ a9).shape;have j9:=d8 _ a9;have l5:=h.glt;rw[d9] at q1;simp only at hv j6 f7 q1 j9;rw[hv] at q1;have HN:=qZ (aZ5 w w.heap.size 5 (lR _));have j8:=qZ (f7.alloc (lR _) (.cells #[] 5));have g8:=(lS w.heap.size w).alloc (lR _) (.cells #[] 5);have HB:=qZ g8;clear h e hb f6 hx hy ek d8 f9 f7 hv q0 q2 d9 a9 hg g8;go_enter Tryz.func130,Tryz.ntmps130
  go_wp2_with fail
  refine b8.out.mono ?_;rintro e w' ⟨rfl,rfl⟩;go_wp2_with (at_builtin;go_must (refine aA6 rfl (.tmp 16) (.tmp 24) 34 rfl w.heap.size 5 (.int .u8 0) 1 Tryz.underlying34 aC6 rfl _ _ rfl HN.out w.heap.size Ax fe.f.b.length cx (cells fe.f.b) rfl (aA1 _).symm j8.out (aE2 _) (by unfold maxLen;simp;omega) (by simp;omega) (by simp) ?_;intro v2 w2 f8 g9 _;have a8:Bs w2 w.heap.size v2 fe.f.b:=f8;obtain⟨l8,m0,e2,_⟩:=aC5 a8;subst e2;have l4:=qZ a8;have i6:=qZ g9;clear f8 a8 g9))
  go_ret2
  exact⟨_,rfl,.of_own l4.out,HB.out.grown i6.out (by simp) (fun j hj=>(Own.lt HN.out j hj).1)⟩
end
end
section
open Go.RowKit Go.Maps Go.Sort Oct
section
variable{w w1 w2:World}{base g:Nat}{p p' :PWD}{room:Int}{vL vL' :Value}{es es' :List (Nm×RF)}
theorem dF7(ps:List Row):aE9 ps=(ps.map Row.l).flatten:=by unfold aE9;rw[List.flatMap_def]
def fOf(n:Nm)(fs:List (Nm×FD)):FD:=(aB6 n fs).getD ⟨[],0⟩
theorem cG2{w w' :World}{B B' :Nat}{A:Option Addr}{xs:List Value}(h:Rd w B A xs)(hk:∀ad,A=some ad->w'.heap[ad.block]? =w.heap[ad.block]?)(hB:B<=B'):Rd w' B' A xs:=fun h0=>by
 obtain⟨ad,e,hlt,hc⟩:=h h0;exact⟨ad,e,by omega,fun j u hu=>(World.cell?_of_block (w:=w) (by rw[aC7];exact hk ad e)).trans (hc j u hu)⟩
theorem bU7{w wr w1 y3 w4:World}{n:Nm}{v2 vL4:Value}{f:FD}(hB:Below w.heap.size w wr)(a8:Fr (aC1 g vL es) wr w1)(a9:Below w1.heap.size w1 y3)(b8:aB0 w4 base g p' room vL4 (aB7 n ⟨v2,f⟩ es))(d8:Fr (fun k=>k=g) y3 w4)
  (f6:∀k,aC1 g vL4 (aB7 n ⟨v2,f⟩ es) k->aC1 g vL es k∨y3.heap.size<=k∨v2.ownBlock=some k) (d9:∀k,v2.ownBlock=some k->w1.heap.size<=k):RTo w base g vL es ⟨p',room,aB7 n f (sec RF.f es)⟩ w4:=by
 refine⟨vL4,_,b8,by rw[aJ2],(((Fr.of_below (aC1 g vL es) hB).trans a8 (fun j hj=>.inl hj)).trans (Fr.of_below (aC1 g vL es) a9) (fun j hj=>.inl hj)).trans d8 (fun j hj=>.inl (.inl hj)),fun k hk=>?_⟩;have h1:=hB.size;have h2:=a8.size;have h3:=a9.size;rcases f6 k hk with h|h|h
 ·exact .inl h
 ·exact .inr (by omega)
 exact .inr (by have:=d9 k h;omega)
theorem cB9(h:aB0 w base g p room vL es)(n:Nm)(hn:n.length<=140737488351232)(A:Option Addr)(ps:List Row)(c:Nat)(B6:Rd w w.heap.size A (ps.map Row.val))(hp:RRd w w.heap.size ps)(J3:ps.length<=c)(J9:ps.length<=1000000000)(J4:(aE9 ps).length<=274877906944)
  (B2:∀q∈es,q.2.f.b.length<=549755813888) (I2:aB8 (sec RF.f es)<=4611686018427387904) (hl:es.length<=549755813888):
  Calls Tryz.prog 11 #[.pointer (some ⟨g,0,none⟩),.string (str n),.slice A ps.length c] w fun e w' =>e=.returned (.int .i64 ((aJ1 p room es).append n (ps.map Row.l)).1)∧RTo w base g vL es ((aJ1 p room es).append n (ps.map Row.l)).2 w' :=by
 obtain⟨x,y,hb,B1,hx,hy⟩:=h.blk;obtain⟨⟨c0,c1,c2,c3,c4,c5⟩,_⟩:=bN7 hb;have HR:=qZ (RTo.mk' h (Fr.refl (aC1 g vL es) w));have K3:=aD7 (sec RF.f es);obtain⟨_,J6,J2⟩:=h.num;obtain⟨R,hR⟩:∃R,R=(aJ1 p room es).append n (ps.map Row.l):=⟨_,rfl⟩
 rw[<-hR];have E6:(str n).size=n.length:=aK1 n;by_cases ho:p.off=true
 ·have e:R=(50,aJ1 p room es):=by rw[hR];unfold DkD.append;rw[if_pos ho]
  rw[e];rw[ho] at c2;clear h e hb B1 hx hy hR B6 hp B2;go_enter Tryz.func11,Tryz.ntmps11
  go_wp2_with fail
  go_ret
  exact⟨rfl,HR.out⟩
 have E5:p.off=false:=by simpa using ho
 rw[E5] at c2;by_cases hbad:n=[]∨32<n.length
 ·have e:R=(1,aJ1 p room es):=by rw[hR];unfold DkD.append;rw[if_neg ho,if_pos hbad]
  rw[e];clear h e hb B1 hx hy hR B6 hp B2;by_cases h1:n=[]
  ·subst h1
   have I3:(str ([]:Nm)).toList.isEmpty=true:=by rw[aO0];rfl
   clear hbad;go_enter Tryz.func11,Tryz.ntmps11
   go_wp2_with fail
   go_ret
   exact⟨rfl,HR.out⟩
  have G7:=bM4 h1;have I6:(32:Int)<((str n).size:Int):=by
   rcases hbad with h|h
   ·exact absurd h h1
   rw[E6];omega
  clear hbad h1;go_enter Tryz.func11,Tryz.ntmps11
  go_wp2_with fail
  go_ret
  exact⟨rfl,HR.out⟩
 have G7:=bM4 (fun h=>hbad (.inl h));have I6:¬(32:Int)<((str n).size:Int):=by rw[E6];have:¬32<n.length:=fun h=>hbad (.inr h);omega
 have G5:Hid (fits (room-aB8 (sec RF.f es)) (ps.map Row.l)=false->R=(52,aJ1 p room es)):=qZ fun hf=>by
  rw[hR];unfold DkD.append;rw[if_neg ho,if_neg hbad,if_pos (show fits (aJ1 p room es).free _=false from hf)]
 have D5:Hid (fits (room-aB8 (sec RF.f es)) (ps.map Row.l)=true->R=(if p.cut.1=true then 50 else 0,⟨p.cut.2.2,room,aB7 n ⟨(fOf n (sec RF.f es)).b++(if p.cut.1=true then cG6 p.cut.2.1 (aE9 ps) else aE9 ps),(fOf n (sec RF.f es)).safe⟩ (sec RF.f es)⟩)):=qZ fun hf=>by
  rw[hR];unfold DkD.append;rw[if_neg ho,if_neg hbad,if_neg (by rw[show(aJ1 p room es).free=room-aB8 (sec RF.f es) from rfl,hf];simp),dF7]
  rfl
 have G4:=qZ (dA2 h I2 (by omega));have q6:=qZ (And.intro B6 (And.intro hp B2));have H:=qZ h;have J7:=qZ (And.intro B1 (And.intro hx hy));have HL:Hid (es.length<=549755813888):=qZ hl;have K0:g<w.heap.size:=h.glt;have B7:Hid (base<=w.heap.size):=qZ (by have:=h.low;omega);clear h hb hR ho E5 B6 hp B2 hbad B1 hx hy hl;go_enter Tryz.func11,Tryz.ntmps11
 go_wp2_with fail
 refine G4.out.mono ?_;rintro e w' ⟨rfl,rfl⟩;clear G4;go_wp2_with fail
 go_loopw [7,8] (fun left i wr=>∃(k:Nat) (lf:Int),i=.int .i64 k∧k<=ps.length∧left=.int .i64 lf∧-4611686018427387904<=lf∧lf<=9223372036854775807∧Hid (fits (room-aB8 (sec RF.f es)) (ps.map Row.l)=fits lf ((ps.drop k).map Row.l))∧Hid (w=wr)) (fun _ i _=>ps.length-(intOf i).toNat)
 case atStart=>exact⟨0,room-aB8 (sec RF.f es),rfl,Nat.zero_le _,rfl,by omega,by omega,qZ rfl,qZ rfl⟩
 obtain⟨k,lf,rfl,hk,rfl,D4,B9,t4,HW⟩:=hrel;obtain rfl:=HW.out;by_cases hlt:k<ps.length
 ·have o9:(k:Int)<ps.length:=by omega
  obtain⟨ad,rfl,G8,j9⟩:=aQ1 q6.out.1 hlt;have s9:=qZ (bY9 (left:=lf) hlt);have y8:ps[k].l.length<=4611686018427387904:=(q6.out.2.1 _ (lX hlt)).2;generalize ps[k]=q at j9 s9 y8
  obtain⟨qa,ql,qc⟩:=q;simp only[Row.val] at j9 s9 y8;by_cases hle:(ql.length:Int)<=lf
  ·have HN:=qZ (show fits (room-aB8 (sec RF.f es)) (ps.map Row.l)=fits (lf-ql.length) ((ps.drop (k+1)).map Row.l) by rw[t4.out,s9.out,decide_eq_true hle,Bool.true_and])
   clear s9 t4;go_wp2_with fail
   go_roundw
   case rel=>exact⟨k+1,lf-ql.length,by go_num,by omega,rfl,by omega,by omega,HN,qZ trivial⟩
   case measure=>simp[intOf];omega
  have HN:=qZ (G5.out (by rw[t4.out,s9.out,decide_eq_false hle,Bool.false_and]));have m4:lf<(ql.length:Int):=by omega
  clear s9 t4 hle;go_wp2_with fail
  go_ret
  exact⟨by rw[HN.out];rfl,by rw[HN.out];exact HR.out⟩
 have z9:k=ps.length:=by omega
 have l7:=qZ (D5.out (by rw[t4.out,z9,List.drop_length];rfl));have o9:¬(k:Int)<ps.length:=by omega
 clear t4 G5 D5 z9 HW;go_wp2_with fail
 clear o9 D4 B9 hlt hk;go_loopw [9,10] (fun v i wr=>∃(k:Nat),i=.int .i64 k∧k<=ps.length∧Hid (Bs wr w.heap.size v (aE9 (ps.take k)))∧Hid (Below w.heap.size w wr)) (fun _ i _=>ps.length-(intOf i).toNat)
 case atStart=>exact⟨0,rfl,Nat.zero_le _,qZ (Own.nil _ _ _),qZ (lS _ _)⟩
 obtain⟨k,rfl,hk,HV,HB⟩:=hrel;have G0:=HB.out.size;by_cases hlt:k<ps.length
 ·have o9:(k:Int)<ps.length:=by omega
  obtain⟨ad,rfl,G8,j9⟩:=aQ1 (q6.out.1.below HB.out) hlt;have HT:=qZ (aV1 ps k hlt);have HQ:=qZ ((q6.out.2.1 _ (lX hlt)).1.below HB.out);have G9:=bI7 ps (k+1);have D3:=bI7 ps k;generalize ps[k]=q at j9 HT HQ
  obtain⟨qa,ql,qc⟩:=q;simp only[Row.val] at j9 HT HQ;have G6:(aE9 (ps.take k)).length+ql.length<=274877906944:=by
   have:=congrArg List.length HT.out;rw[lT] at this;omega
  obtain⟨E7,t8⟩:∃E7,E7=aE9 (ps.take k):=⟨_,rfl⟩
  rw[<-t8] at HV HT G6;obtain⟨Ao,co,I1,_⟩:=Own.shape HV.out;clear t8 G9 D3;subst I1;go_wp2_with (at_builtin;go_must (refine aA6 rfl (.tmp 55) (.tmp 59) 34 rfl w.heap.size 5 (.int .u8 0) 1 Tryz.underlying34 aC6 rfl _ _ rfl HV.out w.heap.size qa _ qc _ rfl (aA1 _).symm HQ.out (aE2 _) (by simp only[aA1];unfold maxLen;omega) (by simp only[aA1];omega) G0 ?_;intro v2 w2 a8 l9 _))
  have m3:=qZ a8;have I5:=qZ (HB.out.grown l9 G0 (fun j hj=>(Own.lt HV.out j hj).1));clear a8 l9;go_roundw
  case rel=>exact⟨k+1,by go_num,by omega,qZ (by rw[HT.out];unfold Bs;rw[aE1];exact m3.out),I5⟩
  case measure=>simp[intOf];omega
 have z9:ps.take k=ps:=List.take_of_length_le (by omega);rw[z9] at HV;have o9:¬(k:Int)<ps.length:=by omega
 have hD:=H.out.below HB.out;obtain⟨xr,yr,G2,x5,I4,E8⟩:=hD.blk;have d5:=G2.cell 5;have J8:wr.cell? ⟨g,5,none⟩=some (.int .i64 yr):=d5;have q8:=qZ (bA4 hD);obtain⟨Ap,cp,I9,B5,D7,p0⟩:=(Got.of_own HV.out).shape;subst I9;have D8:=qZ p0;have J5:=qZ hD;have D6:=qZ (And.intro x5 E8);have B4:Hid (∀ad,Ap=some ad->w.heap.size<=ad.block∧ad.block<wr.heap.size):=qZ (fun ad e=>by
  have:=Own.lt HV.out ad.block (by rw[e];rfl);exact this)
 clear z9 G2 d5 hD x5 I4 E8 p0;cases hgo:p.cut.1 with
 |false=>
  have l7:=qZ (show R=(0,⟨p.cut.2.2,room,aB7 n ⟨(fOf n (sec RF.f es)).b++aE9 ps,(fOf n (sec RF.f es)).safe⟩ (sec RF.f es)⟩) by rw[l7.out,hgo];rfl);rw[hgo] at q8;clear hgo;go_wp2_with fail
  refine q8.out.mono ?_;rintro e w1 ⟨rfl,hD1,hF1,-⟩;have D0:=hF1.size;have n7:Rd w1 w1.heap.size Ap (cells (aE9 ps)):=cG2 D8.out (fun ad e=>hF1.block ad.block (B4.out ad e).2 (fun hm=>by have h1:=(H.out.lt _ hm).2;have h2:=(B4.out ad e).1;omega)) D0;obtain⟨Q,hQ⟩:∃Q,Q=aE9 ps:=⟨_,rfl⟩
  have t6:Rd w1 w1.heap.size Ap (cells Q):=by rw[hQ];exact n7
  have x6:Q.length=(aE9 ps).length:=by rw[hQ]
  rw[<-hQ] at l7;clear hQ n7;have z8:=qZ t6;have m0:=qZ x6;have I0:Q.length<=274877906944:=by omega
  clear x6;have x8:=qZ hF1;have m7:=qZ hD1;clear hD1 hF1 t6 q8;go_wp2_with fail
  obtain⟨wA,o6⟩:∃wA,wA=w1.alloc (.cells #[.string (str n),.slice none 0 0,.int .i64 0] 85):=⟨_,rfl⟩
  have m2:Below w1.heap.size w1 wA:=by rw[o6];exact(lS _ w1).alloc (lR _) _
  have x7:=qZ (bD3 (m7.out.below m2) n (by have:=HL.out;omega));have t9:=qZ o6;have I7:wA.heap.size=w1.heap.size+1:=by rw[o6];simp
  rw[<-o6];refine x7.out.mono ?_;rintro e w' ⟨rfl,rfl⟩;clear o6 x7;cases hg:aB6 n es with
  |none=>
   rw[aM1 hg];have n8:fOf n (sec RF.f es)=⟨[],0⟩:=by unfold fOf;rw[aX0 hg];rfl
   rw[n8] at l7;have g8:Blk wA w1.heap.size 85 #[.string (str n),.slice none 0 0,.int .i64 0]:=by rw[t9.out];exact Blk.new w1 85 _
   obtain⟨wX,i4⟩:∃wX,wX=wA:=⟨_,rfl⟩
   have l6:Below w1.heap.size w1 wX:=by rw[i4];exact m2
   have l5:=qZ (show Blk wX w1.heap.size 85 #[.string (str n),.slice none ([]:List UInt8).length 0,.int .i64 0] by rw[i4];exact g8);have p8:=qZ (show Rd wX wX.heap.size none (cells ([]:List UInt8)) from Rd.none_);have m6:w1.heap.size+1<=wX.heap.size:=l5.out.lt;have m1:wX.cell? ⟨w1.heap.size,1,none⟩=some (.slice none ([]:List UInt8).length 0):=l5.out.cell 1;have m9:=qZ l6;rw[<-i4];clear hg n8 g8 i4 l6 m2
   go_wp2_with (first|(at_builtin;refine aA6 rfl (.tmp 89) (.tmp 91) 34 rfl (w1.heap.size+1) 5 (.int .u8 0) 1 Tryz.underlying34 aC6 rfl _ [] rfl (Own.nil _ _ _) wX.heap.size none ([]:List UInt8).length 0 (cells ([]:List UInt8)) rfl (aA1 _).symm p8.out (aE2 _) (by unfold maxLen;simp;try omega) (by simp;try omega) m6 ?_;intro v1 y1 m8 n6 _;have b8:Bs y1 (w1.heap.size+1) v1 ([]:List UInt8):=m8;have d8:Below (w1.heap.size+1) wX y1:=(lS _ wX).grown n6 m6 (fun j hj=>by cases hj);obtain⟨C5,C3,e1,_⟩:=aC5 b8;subst e1;have o5:=qZ b8;have o7:=qZ d8;have p6:=d8.size;clear m8 b8 n6 d8)|(at_builtin;go_must (refine aA6 rfl (.tmp 93) (.tmp 94) 34 rfl (w1.heap.size+1) 5 (.int .u8 0) 1 Tryz.underlying34 aC6 rfl _ _ rfl o5.out w1.heap.size Ap (aE9 ps).length cp (cells Q) rfl (by rw[aA1];exact m0.out.symm) (z8.out.below (m9.out.trans (o7.out.mono (by omega)))) (aE2 _) (by have:=m0.out;simp only[aA1,List.length_nil];unfold maxLen;omega) (by have:=m0.out;simp only[aA1,List.length_nil];omega) (by omega) ?_;intro v2 y2 a8 l9 _;have d9:Bs y2 (w1.heap.size+1) v2 (([]:List UInt8)++Q):=(by unfold Bs;rw[aE1];exact a8);have a9:Below (w1.heap.size+1) wX y2:=o7.out.grown l9 (by omega) (fun j hj=>(Own.lt o5.out j hj).1);obtain⟨f8,f9,e2,_⟩:=aC5 d9;subst e2;have m3:=qZ d9;have p5:=qZ a9;have g9:Blk y2 w1.heap.size 85 _:=(a9.block w1.heap.size (by omega)).trans l5.out;have n0:=g9.cell 0;have n1:=g9.cell 1;have n2:=g9.cell 2;have n3:=g9.frozen 1;clear a8 d9 l9 a9 g9)))
   have f6:(([]:List UInt8)++Q).length=Q.length:=by simp
   have a8:=m3.out;rw[f6] at a8;have i6:Below w1.heap.size w1 (y2.setCell ⟨w1.heap.size,1,none⟩ (.slice f8 Q.length f9)):=(m9.out.trans (p5.out.mono (by omega))).setCell (p:=⟨w1.heap.size,1,none⟩) (lR _) _;obtain⟨y3,j8⟩:∃y3,y3=y2.setCell ⟨w1.heap.size,1,none⟩ (.slice f8 Q.length f9):=⟨_,rfl⟩
   rw[<-j8] at i6⊢;have f7:∀k,(Value.slice f8 Q.length f9).ownBlock=some k->w1.heap.size<=k:=fun k hk=>by have:=(Own.lt a8 k hk).1;omega
   have m4:Got y3 base (.slice f8 Q.length f9) (([]:List UInt8)++Q):=((Got.of_own a8).mono (by have:=B7.out;omega)).kept (fun j hj=>by
    rw[j8];refine Below.heap_setCell y2 ⟨w1.heap.size,1,none⟩ _ j ?_;have:=(Own.lt a8 j hj).1;show j≠w1.heap.size
    omega) (by rw[j8];simp)
   have n5:=qZ (bH4 (m7.out.below i6) n ⟨.slice f8 Q.length f9,⟨([]:List UInt8)++Q,0⟩⟩ m4 (Nat.zero_le _) (by have:=HL.out;omega));have p4:=qZ i6;have l4:=qZ f7;clear f6 a8 i6 j8 f7 m4 m3 n0 n1 n2 n3 m1;refine n5.out.mono ?_;rintro e w4 ⟨⟨v,rfl⟩,C1,o4,n4,n9⟩;have l8:=qZ (bU7 HB.out x8.out p4.out o4 n4 n9 l4.out);have p9:=qZ (aI6 false w4);clear o4 n4 n9 n5;go_wp2_with fail
   refine p9.out.mono ?_;rintro e w' ⟨rfl,rfl⟩;go_wp2_with fail
   go_ret
   rw[l7.out];exact⟨rfl,l8.out⟩
  |some fe=>
   obtain⟨k,hk,ek,x4⟩:=aO1 hg;rw[ek];have n8:fOf n (sec RF.f es)=fe.f:=by unfold fOf;rw[aN0 hg];rfl
   rw[n8] at l7;have o8:=m7.out.below m2;obtain⟨A1,C6,p7,C8,C0,m5⟩:=o8.shape;obtain⟨b,hA1,hbl,q0,q1,q2,-,-⟩:=m5 k hk;have j6:(n,fe)∈es:=by rw[<-x4];exact lX hk
   rw[x4] at q0 q1 q2;obtain⟨Ax,cx,hv,B5,D7,p0⟩:=(o8.got _ j6).shape;simp only at hv B5 p0 q0 q1 q2;rw[hv] at q1;have J0:(0:Int)<=(k:Int):=by omega
   have I8:(k:Int)<(es.length:Int):=by omega
   obtain⟨xA,yA,hbA6,-⟩:=o8.blk;have e0:=hbA6.cell 0;rw[p7,hA1] at e0;have C7:wA.cell? ⟨g,0,none⟩=some (.slice (some ⟨b,0,none⟩) es.length C6):=e0;have D1:fe.f.b.length<=549755813888:=q6.out.2.2 _ j6;have t7:fe.f.safe<=fe.f.b.length:=H.out.safe _ j6;have g8:Blk wA w1.heap.size 85 #[.string (str n),.slice none 0 0,.int .i64 0]:=by rw[t9.out];exact Blk.new w1 85 _
   have k0:=g8.frozen 0;have k1:=g8.frozen 1;have k2:=g8.frozen 2;have z0:wA.cell? ⟨w1.heap.size,0,none⟩=some (.string (str n)):=g8.cell 0;have z1:wA.cell? ⟨w1.heap.size,1,none⟩=some (.slice none 0 0):=g8.cell 1;have z2:wA.cell? ⟨w1.heap.size,2,none⟩=some (.int .i64 0):=g8.cell 2;obtain⟨wX,i4⟩:∃wX,wX=((wA.setCell ⟨w1.heap.size,0,none⟩ (.string (str n))).setCell ⟨w1.heap.size,1,none⟩ (.slice Ax fe.f.b.length cx)).setCell ⟨w1.heap.size,2,none⟩ (.int .i64 fe.f.safe):=⟨_,rfl⟩
   have l6:Below w1.heap.size w1 wX:=by rw[i4];exact((m2.setCell (p:=⟨w1.heap.size,0,none⟩) (lR _) _).setCell (p:=⟨w1.heap.size,1,none⟩) (lR _) _).setCell (p:=⟨w1.heap.size,2,none⟩) (lR _) _
   have l5:=qZ (show Blk wX w1.heap.size 85 #[.string (str n),.slice Ax fe.f.b.length cx,.int .i64 fe.f.safe] by rw[i4];exact((g8.set_ 0 _).set_ 1 _).set_ 2 _);have p8:=qZ (show Rd wX wX.heap.size Ax (cells fe.f.b) by
    obtain⟨A9,c9,h9,_,_,r9⟩:=(m7.out.got _ j6).shape;simp only at h9 r9;rw[hv] at h9;injection h9 with h9 _ _
    rw[h9];exact(r9.below l6).more l6.size)
   have m6:w1.heap.size+1<=wX.heap.size:=l5.out.lt;have m1:wX.cell? ⟨w1.heap.size,1,none⟩=some (.slice Ax fe.f.b.length cx):=l5.out.cell 1;have m9:=qZ l6;have C9:=qZ i4;have C4:=qZ t7;clear hg n8 g8 i4 l6 m2 o8 m5 p0 hbA6 e0 t7;go_upto_region 26 with(fail)
   rw[<-C9.out];clear k0 k1 k2 z0 z1 z2 C7 q0 q1 q2;go_wp2_with (first|(at_builtin;refine aA6 rfl (.tmp 89) (.tmp 91) 34 rfl (w1.heap.size+1) 5 (.int .u8 0) 1 Tryz.underlying34 aC6 rfl _ [] rfl (Own.nil _ _ _) wX.heap.size Ax fe.f.b.length cx (cells fe.f.b) rfl (aA1 _).symm p8.out (aE2 _) (by unfold maxLen;simp;try omega) (by simp;try omega) m6 ?_;intro v1 y1 m8 n6 _;have b8:Bs y1 (w1.heap.size+1) v1 fe.f.b:=m8;have d8:Below (w1.heap.size+1) wX y1:=(lS _ wX).grown n6 m6 (fun j hj=>by cases hj);obtain⟨C5,C3,e1,_⟩:=aC5 b8;subst e1;have o5:=qZ b8;have o7:=qZ d8;have p6:=d8.size;clear m8 b8 n6 d8)|(at_builtin;go_must (refine aA6 rfl (.tmp 93) (.tmp 94) 34 rfl (w1.heap.size+1) 5 (.int .u8 0) 1 Tryz.underlying34 aC6 rfl _ _ rfl o5.out w1.heap.size Ap (aE9 ps).length cp (cells Q) rfl (by rw[aA1];exact m0.out.symm) (z8.out.below (m9.out.trans (o7.out.mono (by omega)))) (aE2 _) (by have:=m0.out;simp only[aA1,List.length_nil];unfold maxLen;omega) (by have:=m0.out;simp only[aA1,List.length_nil];omega) (by omega) ?_;intro v2 y2 a8 l9 _;have d9:Bs y2 (w1.heap.size+1) v2 (fe.f.b++Q):=(by unfold Bs;rw[aE1];exact a8);have a9:Below (w1.heap.size+1) wX y2:=o7.out.grown l9 (by omega) (fun j hj=>(Own.lt o5.out j hj).1);obtain⟨f8,f9,e2,_⟩:=aC5 d9;subst e2;have m3:=qZ d9;have p5:=qZ a9;have g9:Blk y2 w1.heap.size 85 _:=(a9.block w1.heap.size (by omega)).trans l5.out;have n0:=g9.cell 0;have n1:=g9.cell 1;have n2:=g9.cell 2;have n3:=g9.frozen 1;clear a8 d9 l9 a9 g9)))
   have f6:(fe.f.b++Q).length=(fe.f.b.length+Q.length):=by simp
   have a8:=m3.out;rw[f6] at a8;have i6:Below w1.heap.size w1 (y2.setCell ⟨w1.heap.size,1,none⟩ (.slice f8 (fe.f.b.length+Q.length) f9)):=(m9.out.trans (p5.out.mono (by omega))).setCell (p:=⟨w1.heap.size,1,none⟩) (lR _) _;obtain⟨y3,j8⟩:∃y3,y3=y2.setCell ⟨w1.heap.size,1,none⟩ (.slice f8 (fe.f.b.length+Q.length) f9):=⟨_,rfl⟩
   rw[<-j8] at i6⊢;have f7:∀k,(Value.slice f8 (fe.f.b.length+Q.length) f9).ownBlock=some k->w1.heap.size<=k:=fun k hk=>by have:=(Own.lt a8 k hk).1;omega
   have m4:Got y3 base (.slice f8 (fe.f.b.length+Q.length) f9) (fe.f.b++Q):=((Got.of_own a8).mono (by have:=B7.out;omega)).kept (fun j hj=>by
    rw[j8];refine Below.heap_setCell y2 ⟨w1.heap.size,1,none⟩ _ j ?_;have:=(Own.lt a8 j hj).1;show j≠w1.heap.size
    omega) (by rw[j8];simp)
   have n5:=qZ (bH4 (m7.out.below i6) n ⟨.slice f8 (fe.f.b.length+Q.length) f9,⟨fe.f.b++Q,fe.f.safe⟩⟩ m4 (by have:=C4.out;simp only[lT];omega) (by have:=HL.out;omega));have p4:=qZ i6;have l4:=qZ f7;clear f6 a8 i6 j8 f7 m4 m3 n0 n1 n2 n3 m1;refine n5.out.mono ?_;rintro e w4 ⟨⟨v,rfl⟩,C1,o4,n4,n9⟩;have l8:=qZ (bU7 HB.out x8.out p4.out o4 n4 n9 l4.out);have p9:=qZ (aI6 false w4);clear o4 n4 n9 n5;go_wp2_with fail
   refine p9.out.mono ?_;rintro e w' ⟨rfl,rfl⟩;go_wp2_with fail
   go_ret
   rw[l7.out];exact⟨rfl,l8.out⟩
 |true=>
  have B8:=bT0 hgo;have D9:p.cut.2.1=yr:=by rw[B8.2];exact(D6.out.1 B8.1).2.symm
  have l7:=qZ (show R=(50,⟨p.cut.2.2,room,aB7 n ⟨(fOf n (sec RF.f es)).b++cG6 yr (aE9 ps),(fOf n (sec RF.f es)).safe⟩ (sec RF.f es)⟩) by rw[l7.out,hgo,D9];rfl);clear B8 D9;rw[hgo] at q8;clear hgo;go_wp2_with fail
  refine q8.out.mono ?_;rintro e w1 ⟨rfl,hD1,hF1,-⟩;have D0:=hF1.size;have n7:Rd w1 w1.heap.size Ap (cells (aE9 ps)):=cG2 D8.out (fun ad e=>hF1.block ad.block (B4.out ad e).2 (fun hm=>by have h1:=(H.out.lt _ hm).2;have h2:=(B4.out ad e).1;omega)) D0;have C2:=bS5 yr ((aE9 ps).length+1:Int) D6.out.2 (by omega) w1;obtain⟨m,hm⟩:∃m:Nat,yr % ((aE9 ps).length+1:Int)=(m:Int):=⟨(yr % ((aE9 ps).length+1:Int)).toNat,by have:=Int.emod_nonneg yr (show((aE9 ps).length+1:Int)≠0 by omega);omega⟩
  have J1:m<=(aE9 ps).length:=by have:=Int.emod_lt_of_pos yr (show(0:Int)<((aE9 ps).length+1:Int) by omega);omega
  have E9:cG6 yr (aE9 ps)=(aE9 ps).take m:=by unfold cG6;rw[hm];rfl
  rw[hm] at C2;have G3:=qZ C2;have hcut:=fun W:World=>aQ2 (P:=Tryz.prog) Tryz.underlying34 aC6 Ap (aE9 ps).length cp 0 m (by omega) (by omega) 0 (m:Int) rfl rfl W
  rw[E9] at l7;obtain⟨Q,hQ⟩:∃Q,Q=(aE9 ps).take m:=⟨_,rfl⟩
  have x6:Q.length=m:=by rw[hQ,lV];omega
  have t6:Rd w1 w1.heap.size Ap (cells Q):=by rw[hQ];unfold cells;rw[List.map_take];exact Rd.take n7 m
  rw[<-hQ] at l7;clear C2 hm E9 n7 hQ;have z8:=qZ t6;have m0:=qZ x6;have I0:Q.length<=274877906944:=by omega
  clear x6;have x8:=qZ hF1;have m7:=qZ hD1;clear hD1 hF1 t6 q8;go_wp2_with fail
  refine G3.out.mono ?_;rintro e w' ⟨rfl,rfl⟩;go_wp2_with fail
  clear hcut G3;obtain⟨wA,o6⟩:∃wA,wA=w1.alloc (.cells #[.string (str n),.slice none 0 0,.int .i64 0] 85):=⟨_,rfl⟩
  have m2:Below w1.heap.size w1 wA:=by rw[o6];exact(lS _ w1).alloc (lR _) _
  have x7:=qZ (bD3 (m7.out.below m2) n (by have:=HL.out;omega));have t9:=qZ o6;have I7:wA.heap.size=w1.heap.size+1:=by rw[o6];simp
  rw[<-o6];refine x7.out.mono ?_;rintro e w' ⟨rfl,rfl⟩;clear o6 x7;cases hg:aB6 n es with
  |none=>
   rw[aM1 hg];have n8:fOf n (sec RF.f es)=⟨[],0⟩:=by unfold fOf;rw[aX0 hg];rfl
   rw[n8] at l7;have g8:Blk wA w1.heap.size 85 #[.string (str n),.slice none 0 0,.int .i64 0]:=by rw[t9.out];exact Blk.new w1 85 _
   obtain⟨wX,i4⟩:∃wX,wX=wA:=⟨_,rfl⟩
   have l6:Below w1.heap.size w1 wX:=by rw[i4];exact m2
   have l5:=qZ (show Blk wX w1.heap.size 85 #[.string (str n),.slice none ([]:List UInt8).length 0,.int .i64 0] by rw[i4];exact g8);have p8:=qZ (show Rd wX wX.heap.size none (cells ([]:List UInt8)) from Rd.none_);have m6:w1.heap.size+1<=wX.heap.size:=l5.out.lt;have m1:wX.cell? ⟨w1.heap.size,1,none⟩=some (.slice none ([]:List UInt8).length 0):=l5.out.cell 1;have m9:=qZ l6;rw[<-i4];clear hg n8 g8 i4 l6 m2
   go_wp2_with (first|(at_builtin;refine aA6 rfl (.tmp 89) (.tmp 91) 34 rfl (w1.heap.size+1) 5 (.int .u8 0) 1 Tryz.underlying34 aC6 rfl _ [] rfl (Own.nil _ _ _) wX.heap.size none ([]:List UInt8).length 0 (cells ([]:List UInt8)) rfl (aA1 _).symm p8.out (aE2 _) (by unfold maxLen;simp;try omega) (by simp;try omega) m6 ?_;intro v1 y1 m8 n6 _;have b8:Bs y1 (w1.heap.size+1) v1 ([]:List UInt8):=m8;have d8:Below (w1.heap.size+1) wX y1:=(lS _ wX).grown n6 m6 (fun j hj=>by cases hj);obtain⟨C5,C3,e1,_⟩:=aC5 b8;subst e1;have o5:=qZ b8;have o7:=qZ d8;have p6:=d8.size;clear m8 b8 n6 d8)|(at_builtin;go_must (refine aA6 rfl (.tmp 93) (.tmp 94) 34 rfl (w1.heap.size+1) 5 (.int .u8 0) 1 Tryz.underlying34 aC6 rfl _ _ rfl o5.out w1.heap.size Ap m cp (cells Q) rfl (by rw[aA1];exact m0.out.symm) (z8.out.below (m9.out.trans (o7.out.mono (by omega)))) (aE2 _) (by have:=m0.out;simp only[aA1,List.length_nil];unfold maxLen;omega) (by have:=m0.out;simp only[aA1,List.length_nil];omega) (by omega) ?_;intro v2 y2 a8 l9 _;have d9:Bs y2 (w1.heap.size+1) v2 (([]:List UInt8)++Q):=(by unfold Bs;rw[aE1];exact a8);have a9:Below (w1.heap.size+1) wX y2:=o7.out.grown l9 (by omega) (fun j hj=>(Own.lt o5.out j hj).1);obtain⟨f8,f9,e2,_⟩:=aC5 d9;subst e2;have m3:=qZ d9;have p5:=qZ a9;have g9:Blk y2 w1.heap.size 85 _:=(a9.block w1.heap.size (by omega)).trans l5.out;have n0:=g9.cell 0;have n1:=g9.cell 1;have n2:=g9.cell 2;have n3:=g9.frozen 1;clear a8 d9 l9 a9 g9)))
   have f6:(([]:List UInt8)++Q).length=Q.length:=by simp
   have a8:=m3.out;rw[f6] at a8;have i6:Below w1.heap.size w1 (y2.setCell ⟨w1.heap.size,1,none⟩ (.slice f8 Q.length f9)):=(m9.out.trans (p5.out.mono (by omega))).setCell (p:=⟨w1.heap.size,1,none⟩) (lR _) _;obtain⟨y3,j8⟩:∃y3,y3=y2.setCell ⟨w1.heap.size,1,none⟩ (.slice f8 Q.length f9):=⟨_,rfl⟩
   rw[<-j8] at i6⊢;have f7:∀k,(Value.slice f8 Q.length f9).ownBlock=some k->w1.heap.size<=k:=fun k hk=>by have:=(Own.lt a8 k hk).1;omega
   have m4:Got y3 base (.slice f8 Q.length f9) (([]:List UInt8)++Q):=((Got.of_own a8).mono (by have:=B7.out;omega)).kept (fun j hj=>by
    rw[j8];refine Below.heap_setCell y2 ⟨w1.heap.size,1,none⟩ _ j ?_;have:=(Own.lt a8 j hj).1;show j≠w1.heap.size
    omega) (by rw[j8];simp)
   have n5:=qZ (bH4 (m7.out.below i6) n ⟨.slice f8 Q.length f9,⟨([]:List UInt8)++Q,0⟩⟩ m4 (Nat.zero_le _) (by have:=HL.out;omega));have p4:=qZ i6;have l4:=qZ f7;clear f6 a8 i6 j8 f7 m4 m3 n0 n1 n2 n3 m1;refine n5.out.mono ?_;rintro e w4 ⟨⟨v,rfl⟩,C1,o4,n4,n9⟩;have l8:=qZ (bU7 HB.out x8.out p4.out o4 n4 n9 l4.out);have p9:=qZ (aI6 true w4);clear o4 n4 n9 n5;go_wp2_with fail
   refine p9.out.mono ?_;rintro e w' ⟨rfl,rfl⟩;go_wp2_with fail
   go_ret
   rw[l7.out];exact⟨rfl,l8.out⟩
  |some fe=>
   obtain⟨k,hk,ek,x4⟩:=aO1 hg;rw[ek];have n8:fOf n (sec RF.f es)=fe.f:=by unfold fOf;rw[aN0 hg];rfl
   rw[n8] at l7;have o8:=m7.out.below m2;obtain⟨A1,C6,p7,C8,C0,m5⟩:=o8.shape;obtain⟨b,hA1,hbl,q0,q1,q2,-,-⟩:=m5 k hk;have j6:(n,fe)∈es:=by rw[<-x4];exact lX hk
   rw[x4] at q0 q1 q2;obtain⟨Ax,cx,hv,B5,D7,p0⟩:=(o8.got _ j6).shape;simp only at hv B5 p0 q0 q1 q2;rw[hv] at q1;have J0:(0:Int)<=(k:Int):=by omega
   have I8:(k:Int)<(es.length:Int):=by omega
   obtain⟨xA,yA,hbA6,-⟩:=o8.blk;have e0:=hbA6.cell 0;rw[p7,hA1] at e0;have C7:wA.cell? ⟨g,0,none⟩=some (.slice (some ⟨b,0,none⟩) es.length C6):=e0;have D1:fe.f.b.length<=549755813888:=q6.out.2.2 _ j6;have t7:fe.f.safe<=fe.f.b.length:=H.out.safe _ j6;have g8:Blk wA w1.heap.size 85 #[.string (str n),.slice none 0 0,.int .i64 0]:=by rw[t9.out];exact Blk.new w1 85 _
   have k0:=g8.frozen 0;have k1:=g8.frozen 1;have k2:=g8.frozen 2;have z0:wA.cell? ⟨w1.heap.size,0,none⟩=some (.string (str n)):=g8.cell 0;have z1:wA.cell? ⟨w1.heap.size,1,none⟩=some (.slice none 0 0):=g8.cell 1;have z2:wA.cell? ⟨w1.heap.size,2,none⟩=some (.int .i64 0):=g8.cell 2;obtain⟨wX,i4⟩:∃wX,wX=((wA.setCell ⟨w1.heap.size,0,none⟩ (.string (str n))).setCell ⟨w1.heap.size,1,none⟩ (.slice Ax fe.f.b.length cx)).setCell ⟨w1.heap.size,2,none⟩ (.int .i64 fe.f.safe):=⟨_,rfl⟩
   have l6:Below w1.heap.size w1 wX:=by rw[i4];exact((m2.setCell (p:=⟨w1.heap.size,0,none⟩) (lR _) _).setCell (p:=⟨w1.heap.size,1,none⟩) (lR _) _).setCell (p:=⟨w1.heap.size,2,none⟩) (lR _) _
   have l5:=qZ (show Blk wX w1.heap.size 85 #[.string (str n),.slice Ax fe.f.b.length cx,.int .i64 fe.f.safe] by rw[i4];exact((g8.set_ 0 _).set_ 1 _).set_ 2 _);have p8:=qZ (show Rd wX wX.heap.size Ax (cells fe.f.b) by
    obtain⟨A9,c9,h9,_,_,r9⟩:=(m7.out.got _ j6).shape;simp only at h9 r9;rw[hv] at h9;injection h9 with h9 _ _
    rw[h9];exact(r9.below l6).more l6.size)
   have m6:w1.heap.size+1<=wX.heap.size:=l5.out.lt;have m1:wX.cell? ⟨w1.heap.size,1,none⟩=some (.slice Ax fe.f.b.length cx):=l5.out.cell 1;have m9:=qZ l6;have C9:=qZ i4;have C4:=qZ t7;clear hg n8 g8 i4 l6 m2 o8 m5 p0 hbA6 e0 t7;go_upto_region 26 with(fail)
   rw[<-C9.out];clear k0 k1 k2 z0 z1 z2 C7 q0 q1 q2;go_wp2_with (first|(at_builtin;refine aA6 rfl (.tmp 89) (.tmp 91) 34 rfl (w1.heap.size+1) 5 (.int .u8 0) 1 Tryz.underlying34 aC6 rfl _ [] rfl (Own.nil _ _ _) wX.heap.size Ax fe.f.b.length cx (cells fe.f.b) rfl (aA1 _).symm p8.out (aE2 _) (by unfold maxLen;simp;try omega) (by simp;try omega) m6 ?_;intro v1 y1 m8 n6 _;have b8:Bs y1 (w1.heap.size+1) v1 fe.f.b:=m8;have d8:Below (w1.heap.size+1) wX y1:=(lS _ wX).grown n6 m6 (fun j hj=>by cases hj);obtain⟨C5,C3,e1,_⟩:=aC5 b8;subst e1;have o5:=qZ b8;have o7:=qZ d8;have p6:=d8.size;clear m8 b8 n6 d8)|(at_builtin;go_must (refine aA6 rfl (.tmp 93) (.tmp 94) 34 rfl (w1.heap.size+1) 5 (.int .u8 0) 1 Tryz.underlying34 aC6 rfl _ _ rfl o5.out w1.heap.size Ap m cp (cells Q) rfl (by rw[aA1];exact m0.out.symm) (z8.out.below (m9.out.trans (o7.out.mono (by omega)))) (aE2 _) (by have:=m0.out;simp only[aA1,List.length_nil];unfold maxLen;omega) (by have:=m0.out;simp only[aA1,List.length_nil];omega) (by omega) ?_;intro v2 y2 a8 l9 _;have d9:Bs y2 (w1.heap.size+1) v2 (fe.f.b++Q):=(by unfold Bs;rw[aE1];exact a8);have a9:Below (w1.heap.size+1) wX y2:=o7.out.grown l9 (by omega) (fun j hj=>(Own.lt o5.out j hj).1);obtain⟨f8,f9,e2,_⟩:=aC5 d9;subst e2;have m3:=qZ d9;have p5:=qZ a9;have g9:Blk y2 w1.heap.size 85 _:=(a9.block w1.heap.size (by omega)).trans l5.out;have n0:=g9.cell 0;have n1:=g9.cell 1;have n2:=g9.cell 2;have n3:=g9.frozen 1;clear a8 d9 l9 a9 g9)))
   have f6:(fe.f.b++Q).length=(fe.f.b.length+Q.length):=by simp
   have a8:=m3.out;rw[f6] at a8;have i6:Below w1.heap.size w1 (y2.setCell ⟨w1.heap.size,1,none⟩ (.slice f8 (fe.f.b.length+Q.length) f9)):=(m9.out.trans (p5.out.mono (by omega))).setCell (p:=⟨w1.heap.size,1,none⟩) (lR _) _;obtain⟨y3,j8⟩:∃y3,y3=y2.setCell ⟨w1.heap.size,1,none⟩ (.slice f8 (fe.f.b.length+Q.length) f9):=⟨_,rfl⟩
   rw[<-j8] at i6⊢;have f7:∀k,(Value.slice f8 (fe.f.b.length+Q.length) f9).ownBlock=some k->w1.heap.size<=k:=fun k hk=>by have:=(Own.lt a8 k hk).1;omega
   have m4:Got y3 base (.slice f8 (fe.f.b.length+Q.length) f9) (fe.f.b++Q):=((Got.of_own a8).mono (by have:=B7.out;omega)).kept (fun j hj=>by
    rw[j8];refine Below.heap_setCell y2 ⟨w1.heap.size,1,none⟩ _ j ?_;have:=(Own.lt a8 j hj).1;show j≠w1.heap.size
    omega) (by rw[j8];simp)
   have n5:=qZ (bH4 (m7.out.below i6) n ⟨.slice f8 (fe.f.b.length+Q.length) f9,⟨fe.f.b++Q,fe.f.safe⟩⟩ m4 (by have:=C4.out;simp only[lT];omega) (by have:=HL.out;omega));have p4:=qZ i6;have l4:=qZ f7;clear f6 a8 i6 j8 f7 m4 m3 n0 n1 n2 n3 m1;refine n5.out.mono ?_;rintro e w4 ⟨⟨v,rfl⟩,C1,o4,n4,n9⟩;have l8:=qZ (bU7 HB.out x8.out p4.out o4 n4 n9 l4.out);have p9:=qZ (aI6 true w4);clear o4 n4 n9 n5;go_wp2_with fail
   refine p9.out.mono ?_;rintro e w' ⟨rfl,rfl⟩;go_wp2_with fail
   go_ret
   rw[l7.out];exact⟨rfl,l8.out⟩
end
end
section
open Go.RowKit Go.Maps Go.Sort Oct
def aR4(keep:List Int)(i:Nat)(f:FD):FD:=
 ⟨f.b.take (f.safe+if i<keep.length then(keep.getD i 0 % ((f.b.length:Int)-f.safe+1)).toNat else 0),f.safe+if i<keep.length then(keep.getD i 0 % ((f.b.length:Int)-f.safe+1)).toNat else 0⟩
def aY3(keep:List Int)(k:Nat)(fs:List (Nm×FD)):List (Nm×FD):=fs.mapIdx fun i q=>if i<k then(q.1,aR4 keep i q.2) else q
def DkD.boot(d:DkD)(keep:List Int):DkD:=⟨⟨false,false,0,0⟩,d.room,aY3 keep d.fs.length d.fs⟩
theorem cO0(keep:List Int)(fs:List (Nm×FD)):aY3 keep 0 fs=fs:=by
 unfold aY3;refine List.ext_getElem (by simp) fun i h1 h2=>?_
 rw[List.getElem_mapIdx,if_neg (by omega)]
theorem bE6(keep:List Int)(k:Nat)(fs:List (Nm×FD)):(aY3 keep k fs).length=fs.length:=by unfold aY3;simp
theorem cX2(keep:List Int){k:Nat}{fs:List (Nm×FD)}(hk:k<fs.length)(h:k<(aY3 keep k fs).length):(aY3 keep k fs)[k]=fs[k]:=by
 have h1:∀h',(fs.mapIdx fun i q=>if i<k then(q.1,aR4 keep i q.2) else q)[k]'(h')=fs[k]:=fun h' =>by rw[List.getElem_mapIdx,if_neg (by omega)]
 exact h1 _
theorem cP9(keep:List Int){k:Nat}{fs:List (Nm×FD)}(hk:k<fs.length):(aY3 keep k fs).set k (fs[k].1,aR4 keep k fs[k].2)=aY3 keep (k+1) fs:=by
 unfold aY3;refine List.ext_getElem (by simp) fun i h1 h2=>?_
 rw[List.getElem_set,List.getElem_mapIdx,List.getElem_mapIdx];by_cases he:k=i
 ·subst he
  rw[if_pos rfl,if_pos (by omega)]
 rw[if_neg he];by_cases hlt:i<k
 ·rw[if_pos hlt,if_pos (by omega)]
 rw[if_neg hlt,if_neg (by omega)]
theorem cF8(keep:List Int)(i:Nat)(f:FD)(h:f.safe<=f.b.length):(aR4 keep i f).safe<=f.b.length∧(aR4 keep i f).b=f.b.take (aR4 keep i f).safe:=by
 refine⟨?_,rfl⟩;unfold aR4;show f.safe+_<=_
 split
 ·have h1:=Int.emod_lt_of_pos (keep.getD i 0) (show(0:Int)<(f.b.length:Int)-f.safe+1 by omega)
  have h2:=Int.emod_nonneg (keep.getD i 0) (show((f.b.length:Int)-f.safe+1)≠0 by omega);omega
 omega
section
variable{w w1 w2 wr:World}{base g:Nat}{p p' :PWD}{room:Int}{vL vL' :Value}{es es' :List (Nm×RF)}
theorem dJ2{α β:Type}(f:α->β)(l:List (Nm×α))(k:Nat)(q:Nm×α):sec f (l.set k q)=(sec f l).set k (q.1,f q.2):=by simp only[sec,List.map_set]
theorem aB0.boot1{b c L:Nat}(hL:es.length=L)(h:aB0 wr base g p room (.slice (some ⟨b,0,none⟩) L c) es){k:Nat}(hk:k<es.length)(s:Nat)(hs:s<=es[k].2.f.b.length)(nt:Nat):
  aB0 ((wr.drewN nt).setCell ⟨b,k*3+2,none⟩ (.int .i64 s)) base g p room (.slice (some ⟨b,0,none⟩) L c) (es.set k (es[k].1,⟨es[k].2.v,⟨es[k].2.f.b,s⟩⟩))∧Fr (aC1 g (.slice (some ⟨b,0,none⟩) L c) es) wr ((wr.drewN nt).setCell ⟨b,k*3+2,none⟩ (.int .i64 s))∧
  (∀i,aC1 g (.slice (some ⟨b,0,none⟩) L c) (es.set k (es[k].1,⟨es[k].2.v,⟨es[k].2.f.b,s⟩⟩)) i->aC1 g (.slice (some ⟨b,0,none⟩) L c) es i∨wr.heap.size<=i):=by
 subst hL;have hm:es[k]∈es:=lX hk;have h1:=(h.drewN_ nt).setFile (w1:=wr) hk (j:=2) (by omega) (.int .i64 (s:Int)) ⟨es[k].2.v,⟨es[k].2.f.b,s⟩⟩ (by simp[aO4]) ((h.got _ hm).kept (fun _ _=>rfl) (lR _)) hs (fun i hi=>.inl (.inr (.inr ⟨_,hm,hi⟩)));rw[aU6 h.rising hk] at h1;exact⟨h1.1,((Fr.refl _ _).drewN_ nt).trans h1.2.1 (fun j hj=>.inl hj),h1.2.2⟩
theorem aB0.boot2{b c L:Nat}(hL:es.length=L)(h:aB0 wr base g p room (.slice (some ⟨b,0,none⟩) L c) es)(hb:Below wr.heap.size wr w2){k:Nat}(hk:k<es.length){v:Value}{l:List UInt8}(hs:es[k].2.f.safe<=l.length)(hg:Got w2 wr.heap.size v l):
  aB0 (w2.setCell ⟨b,k*3+1,none⟩ v) base g p room (.slice (some ⟨b,0,none⟩) L c) (es.set k (es[k].1,⟨v,⟨l,es[k].2.f.safe⟩⟩))∧Fr (aC1 g (.slice (some ⟨b,0,none⟩) L c) es) wr (w2.setCell ⟨b,k*3+1,none⟩ v)∧
  (∀i,aC1 g (.slice (some ⟨b,0,none⟩) L c) (es.set k (es[k].1,⟨v,⟨l,es[k].2.f.safe⟩⟩)) i->aC1 g (.slice (some ⟨b,0,none⟩) L c) es i∨wr.heap.size<=i):=by
 subst hL;have a8:base<=wr.heap.size:=by have:=h.low;have:=h.glt;omega
 have h1:=(h.below hb).setFile (w1:=wr) hk (j:=1) (by omega) v ⟨v,⟨l,es[k].2.f.safe⟩⟩ (by simp[aO4]) (hg.mono a8) hs (fun i hi=>.inr (hg.row.base i hi));rw[aU6 h.rising hk] at h1;exact⟨h1.1,(Fr.of_below _ hb).trans h1.2.1 (fun j hj=>.inl hj),h1.2.2⟩
end
end
section
open Go.RowKit Go.Maps Go.Sort Oct
structure FRd(w:World)(A:Option Addr)(es:List (Nm×RF)):Prop where
 at_:∀k,(hk:k<es.length)->∃b,A=some ⟨b,0,none⟩∧b<w.heap.size∧w.cell? ⟨b,k*3,none⟩=some (.string (str es[k].1))∧w.cell? ⟨b,k*3+1,none⟩=some es[k].2.v∧w.cell? ⟨b,k*3+2,none⟩=some (.int .i64 es[k].2.f.safe)
 bytes:∀q∈es,∃Ax cx,q.2.v=.slice Ax q.2.f.b.length cx∧Rd w w.heap.size Ax (cells q.2.f.b)
theorem FRd.below{w w' :World}{A:Option Addr}{es:List (Nm×RF)}(h:FRd w A es)(hb:Below w.heap.size w w'):FRd w' A es:=by
 refine⟨fun k hk=>?_,fun q hq=>?_⟩
 ·obtain⟨b,h1,h2,h3,h4,h5⟩:=h.at_ k hk
  have:=hb.size;exact⟨b,h1,by omega,(hb.cell (p:=⟨b,k*3,none⟩) h2).trans h3,(hb.cell (p:=⟨b,k*3+1,none⟩) h2).trans h4,(hb.cell (p:=⟨b,k*3+2,none⟩) h2).trans h5⟩
 obtain⟨Ax,cx,h1,h2⟩:=h.bytes q hq;exact⟨Ax,cx,h1,(h2.below hb).more hb.size⟩
theorem aB0.frd{w:World}{base g:Nat}{p:PWD}{room:Int}{A:Option Addr}{n c:Nat}{es:List (Nm×RF)}(h:aB0 w base g p room (.slice A n c) es):n=es.length∧FRd w A es:=by
 obtain⟨A',c',hv,_,_,a8⟩:=h.shape;injection hv with h1 h2 h3
 subst h1 h2;refine⟨rfl,fun k hk=>?_,fun q hq=>?_⟩
 ·obtain⟨b,h1,h2,h3,h4,h5,_⟩:=a8 k hk
  exact⟨b,h1,h2,h3,h4,h5⟩
 obtain⟨Ax,cx,h1,_,_,h2⟩:=(h.got q hq).shape;exact⟨Ax,cx,h1,h2⟩
theorem dA0(A B:Option Addr)(es es2:List (Nm×RF))(c d:Nat)(w:World)(ha:FRd w A es)(hb:FRd w B es2)(he:sec RF.f es=sec RF.f es2)(hl:es.length<=140737488351232)(f6:∀q∈es,q.2.f.b.length<=140737488351232):
  Calls Tryz.prog 26 #[.slice A es.length c,.slice B es2.length d] w fun e w' =>e=.returned (.bool true)∧Below w.heap.size w w' :=by
 have a9:es2.length=es.length:=by have:=congrArg List.length he;simpa[sec] using this.symm
 rw[a9];have HA:=qZ ha;have HB:=qZ hb;have HE:=qZ he;have d9:=qZ a9;have g8:=qZ f6;clear ha hb he a9 f6;go_enter Tryz.func26,Tryz.ntmps26
 go_wp2_with fail
 go_loopw [5] (fun n wr=>∃k:Nat,k<=es.length∧n=.int .i64 k∧Hid (Below w.heap.size w wr)) (fun n _=>es.length-(intOf n).toNat)
 case atStart=>exact⟨0,by omega,rfl,qZ (lS _ _)⟩
 obtain⟨k,hk,rfl,hb⟩:=hrel;by_cases hlt:k<es.length
 rotate_left
 ·clear HA HB
  go_wp2_with fail
  go_ret
  exact⟨rfl,hb.out⟩
 have a8:k<es2.length:=by rw[d9.out];exact hlt
 obtain⟨g,rfl,ag,a0,a1,a2⟩:=(HA.out.below hb.out).at_ k hlt;obtain⟨f,rfl,bg,b0,b1,b2⟩:=(HB.out.below hb.out).at_ k a8;obtain⟨Ax,cx,f7,d8⟩:=(HA.out.below hb.out).bytes _ (lX hlt);obtain⟨Bx,dx,f8,b8⟩:=(HB.out.below hb.out).bytes _ (lX a8);have f9:=g8.out _ (lX hlt);have g9:(es[k].1,es[k].2.f)=(es2[k].1,es2[k].2.f):=by
  have h1:(sec RF.f es)[k]'(by rw[aH5];exact hlt)=(es[k].1,es[k].2.f):=by simp[sec]
  have h2:(sec RF.f es2)[k]'(by rw[aH5];exact a8)=(es2[k].1,es2[k].2.f):=by simp[sec]
  rw[<-h1,<-h2];exact List.getElem_of_eq HE.out _
 rw[f7] at a1;rw[f8] at b1;injection g9 with e1 e2
 rw[<-e1] at b0;rw[<-e2] at b1 b2 b8;generalize es[k].1=nm at a0 b0
 generalize es[k].2.f=F at a1 a2 b1 b2 d8 b8 f9
 obtain⟨fb,fs⟩:=F;simp only at a1 a2 b1 b2 d8 b8 f9;have q1:=fun n=>aX6 cx (d8.drewN n)
 have q2:=fun n=>aX6 dx (b8.drewN n)
 have i4:(k:Int)<es.length:=by omega
 clear HA HB d8 b8 f7 f8 e1 e2 a8;go_wp2_with fail
 go_quiet (fail);go_wp2_with fail
 go_roundw
 case rel=>exact⟨k+1,by omega,by go_num,qZ (aA3 hb.out _)⟩
 case measure=>simp[intOf];omega
end
end Go.Proofs.YtgeofijddhflaaaGreatDoor
