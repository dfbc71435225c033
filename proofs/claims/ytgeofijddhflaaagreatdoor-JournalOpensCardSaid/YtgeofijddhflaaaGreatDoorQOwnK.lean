/- The statements' own helper Owned: as it is walked, and rows of bytes stay as long as they were. Condition: no two rows lie in one block. -/
import Derived.Test.YtgeofijddhflaaaGreatDoorQHeldS
import Derived.Test.YtgeofijddhflaaaGreatDoorChecked
import Derived.WalkLawsBesides
import Derived.BigQuiet
import Derived.StillTailTactics
set_option maxHeartbeats 8000000
set_option maxRecDepth 100000
namespace Go.Proofs.YtgeofijddhflaaaGreatDoor
section
open Go.RowKit Oct
theorem aC6:(Tryz.prog.info? 5).map (fun i=>(i.zero,i.size,i.bytes))=some (some (.int .u8 0),1,1):=by kernel_rfl
abbrev Bs (w:World) (base:Nat) (v:Value) (l:List UInt8):Prop:=Own w base 5 v (cells l)
theorem aC5{w:World}{base:Nat}{v:Value}{l:List UInt8}(h:Bs w base v l):∃A c,v=.slice A l.length c∧l.length<=c∧c<=9223372036854775807∧Rd w w.heap.size A (cells l):=by
 obtain⟨A,c,hv,hc,hm,hr⟩:=Own.shape h;rw[aA1] at hv hc;exact⟨A,c,hv,hc,by unfold maxLen at hm;omega,hr⟩
theorem aX6{w:World}{B:Nat}{A:Option Addr}{l:List UInt8}(c:Nat)(h:Rd w B A (cells l)):(convert 34 9 (.slice A l.length c)).run Tryz.prog w=.ok (.string (str l)) w:=
 bU2 34 9 5 Tryz.underlying34 Tryz.underlying5 Tryz.underlying9 _ c rfl h
theorem dD9(n j:Nat):bits .or .u8 ((n:Int)/2^(7*j) %256) 128=((dA8 (n/128^j)).toNat:Int):=by
 unfold dA8;rw[bV1,<-Int.natCast_ediv,aJ3 _ (by omega),<-cS1,u8_or _ _ (by omega) (by omega) (by omega) (by omega)]
 congr 1
theorem bF0(n:Nat):bits .andNot .u8 ((n:Int) %256) 128=((dK8 n).toNat:Int):=by
 unfold dK8;rw[aJ3 _ (by omega),u8_andNot _ _ (by omega) (by omega) (by omega) (by omega)];have h:∀x:Fin 256,x.val&&& 127=x.val %128:=by decide+kernel
 have:=h ⟨n %256,Nat.mod_lt _ (by omega)⟩;simp only at this;have e1:((n:Int) %256).toNat=n %256:=by omega
 rw[e1];show(((n %256)&&& 127:Nat):Int)=_
 omega
theorem cC9(v:Value)(l:List UInt8)(n:Nat)(base:Nat)(w:World)(hn:n<2^64)(hl:l.length+11<=140737488355328)(hb:base<=w.heap.size)
  (g9:Bs w base v l):
  Calls Tryz.prog 157 #[v,.int .u64 n] w fun e w' =>∃v',e=.returned v' ∧Bs w' base v' (l++enc n)∧w.grownBy w' v.ownBlock∧aR5 v' v.ownBlock w.heap.size:=by
 have Hn:=qZ hn;clear hn;go_enter Tryz.func157,Tryz.ntmps157
 go_wp2;go_loop [5] (fun s=>∃k:Nat,k<=9∧s=.int .i64 (7*k:Nat)∧Big n k) (fun s=>64-(intOf s).toNat)
 case atStart=>exact⟨0,by omega,rfl,.inl rfl⟩
 obtain⟨k,hk,rfl,j9⟩:=hrel;go_wp2
 ·have d9:(128:Int)<=(n:Int)/2^(7*k):=by assumption
  have l5:k<9:=dC4 Hn.out d9;have hB:Big n (k+1):=.inr (by rw[Nat.add_sub_cancel];exact dH5 d9);go_round
  case rel=>exact⟨k+1,by omega,by go_num,hB⟩
  case measure=>simp[intOf];omega
 have j6:(n:Int)/2^(7*k)<128:=by assumption
 have f6:=cN2 j6;go_loopw [0,5] (fun b s wr=>∃j:Nat,j<=k∧s=.int .i64 (7*j:Nat)∧Bs wr base b (l++bX1 (n/128^(j+1)))∧w.grownBy wr v.ownBlock∧aR5 b v.ownBlock w.heap.size) (fun _ s _=>(intOf s).toNat)
 case atStart=>exact⟨k,lR _,rfl,by rw[f6,List.append_nil];exact g9,World.grownBy.refl _ _,.inl rfl⟩
 clear f6;obtain⟨j,hj,rfl,a9,f8,d8⟩:=hrel;have l4:(l++bX1 (n/128^(j+1))).length<=l.length+10:=by
  have:=bH9 (n/128^(j+1)) 10 (by have:=Hn.out;have:n/128^(j+1)<=n:=Nat.div_le_self _ _;omega);simp;omega
 have i6:=f8.size;by_cases h0:0<j
 ·have f6:=cX1 j9 hj h0
  have j8:=qZ f6;clear f6;go_wp2_with (at_builtin;refine aO7 rfl (.tmp 16) (.tmp 22) 34 rfl base 5 (.int .u8 0) 1 Tryz.underlying34 aC6 rfl _ _ _ _ (congrArg (Value.int .u8) (dD9 n j)) rfl a9 rfl rfl (by rw[aA1];omega) (by rw[aA1];omega) (by omega) ?_)
  intro v' w1 a8 f9 f7;have b8:Bs w1 base v' (l++bX1 (n/128^j)):=by rw[j8.out,<-List.append_assoc];unfold Bs;rw[aE1];exact a8
  have i4:=aA4 f8 f9 d8;have g8:=bQ8 d8 f7 i6;clear a8 f9 f7 a9 f8 d8;go_wp2;go_roundw
  case rel=>exact⟨j-1,by omega,by go_num,by rw[show j-1+1=j by omega];exact b8,i4,g8⟩
  case measure=>simp[intOf];omega
 obtain rfl:j=0:=by omega
 go_wp2_with (at_builtin;refine aO7 rfl (.tmp 24) (.tmp 28) 34 rfl base 5 (.int .u8 0) 1 Tryz.underlying34 aC6 rfl _ _ _ _ (congrArg (Value.int .u8) (bF0 n)) rfl a9 rfl rfl (by rw[aA1];omega) (by rw[aA1];omega) (by omega) ?_)
 intro v' w1 a8 f9 f7;have i4:=aA4 f8 f9 d8;have g8:=bQ8 d8 f7 i6;have b8:Bs w1 base v' (l++enc n):=by
  unfold Bs enc;rw[<-List.append_assoc,aE1];exact a8
 clear a8 f9 f7 a9 f8 d8;go_wp2;go_ret
 exact⟨v',rfl,b8,i4,g8⟩
end
section
open Go.RowKit Oct
theorem dC5(n:Int)(w:World)(h:n<0):
  Calls Tryz.prog 115 #[.int .i64 n] w fun e w' =>e=.returned (.tuple #[.slice none 0 0,.int .i64 1])∧w=w' :=by
 go_enter Tryz.func115,Tryz.ntmps115
 go_wp2;go_ret2
 exact⟨rfl,rfl⟩
theorem cG0(n:Nat)(w:World)(h:n<=9223372036854775807):
  Calls Tryz.prog 115 #[.int .i64 n] w fun e w' =>∃v,e=.returned (.tuple #[v,.int .i64 0])∧Bs w' w.heap.size v (enc n)∧Below w.heap.size w w' :=by
 go_enter Tryz.func115,Tryz.ntmps115
 go_wp2_with fail
 refine(cC9 (.slice none 0 0) [] n w.heap.size w (by omega) (by simp) (lR _) (Own.nil _ _ _)).mono ?_;rintro e w1 ⟨v,rfl,a8,hg,_⟩;have hb:=aH1 hg;clear hg;go_wp2;go_ret2
 exact⟨v,rfl,a8,hb⟩
theorem dI6(n:Nat)(M:Int)(hM:M=(n:Int))(w:World)(h:n<=9223372036854775807):
  Calls Tryz.prog 115 #[.int .i64 M] w fun e w' =>∃v,e=.returned (.tuple #[v,.int .i64 0])∧Bs w' w.heap.size v (enc n)∧Below w.heap.size w w' :=by
 subst hM;exact cG0 n w h
end
section
open Go.RowKit Oct
abbrev Tk (w:World) (g:Nat) (a e:Int) (s:Value):Prop:=Blk w g 220 #[.int .i64 a,.int .i64 e,s]
theorem aH4{w:World}{g:Nat}{a e:Int}{s:Value}(h:Tk w g a e s):
  w.cell? ⟨g,0,none⟩=some (.int .i64 a)∧w.cell? ⟨g,1,none⟩=some (.int .i64 e)∧w.cell? ⟨g,2,none⟩=some s∧w.frozen? ⟨g,0,none⟩=false∧w.frozen? ⟨g,1,none⟩=false:=
 ⟨h.cell 0,h.cell 1,h.cell 2,h.frozen 0,h.frozen 1⟩
theorem dM6(g:Nat)(a e n m:Int)(s:Value)(w:World)(h:Tk w g a e s)(he:e≠0):
  Calls Tryz.prog 205 #[.pointer (some ⟨g,0,none⟩),.int .i64 n,.int .i64 m] w fun e' w' =>e' =.returned (.bool false)∧w=w' :=by
 obtain⟨h0,h1,h2,f0,f1⟩:=aH4 h;clear h;have a8:(e==0)=false:=by simpa using he
 go_enter Tryz.func205,Tryz.ntmps205
 go_wp2;go_ret
 exact⟨rfl,rfl⟩
theorem dH6(g:Nat)(a n m:Int)(s:Value)(w:World)(h:Tk w g a 0 s)(hn:m-a<n)(b1:-4611686018427387904<=m-a)(b2:m-a<=4611686018427387904):
  Calls Tryz.prog 205 #[.pointer (some ⟨g,0,none⟩),.int .i64 n,.int .i64 m] w fun e' w' =>e' =.returned (.bool false)∧Tk w' g a 3 s∧w.grownBy w' (some g):=by
 obtain⟨h0,h1,h2,f0,f1⟩:=aH4 h;have a8:Tk (w.setCell ⟨g,1,none⟩ (.int .i64 3)) g a 3 s∧w.grownBy (w.setCell ⟨g,1,none⟩ (.int .i64 3)) (some g):=⟨h.set_ 1 _,aA0 _ _ _ _⟩;clear h;go_enter Tryz.func205,Tryz.ntmps205
 go_wp2;go_ret
 exact⟨rfl,a8⟩
theorem dL7(g:Nat)(a n m:Int)(s:Value)(w:World)(h:Tk w g a 0 s)(hn:n<=m-a)(b1:-4611686018427387904<=m-a)(b2:m-a<=4611686018427387904)(b3:0<=a)(b4:0<=n)(b5:m<=4611686018427387904):
  Calls Tryz.prog 205 #[.pointer (some ⟨g,0,none⟩),.int .i64 n,.int .i64 m] w fun e' w' =>e' =.returned (.bool true)∧Tk w' g (a+n) 0 s∧w.grownBy w' (some g):=by
 obtain⟨h0,h1,h2,f0,f1⟩:=aH4 h;have a8:Tk (w.setCell ⟨g,0,none⟩ (.int .i64 (a+n))) g (a+n) 0 s∧w.grownBy (w.setCell ⟨g,0,none⟩ (.int .i64 (a+n))) (some g):=⟨h.set_ 0 _,aA0 _ _ _ _⟩;clear h;go_enter Tryz.func205,Tryz.ntmps205
 go_wp2;go_ret
 exact⟨rfl,a8⟩
theorem dA3(g:Nat)(a e c:Int)(b:Bool)(s:Value)(w:World)(h:Tk w g a e s)(he:e≠0):
  Calls Tryz.prog 211 #[.pointer (some ⟨g,0,none⟩),.bool b,.int .i64 c] w fun e' w' =>e' =.returned (.bool true)∧w=w' :=by
 obtain⟨h0,h1,h2,f0,f1⟩:=aH4 h;clear h;have a8:(e==0)=false:=by simpa using he
 have a9:(e !=0)=true:=by simpa using he
 go_enter Tryz.func211,Tryz.ntmps211
 go_wp2;go_ret
 exact⟨rfl,rfl⟩
theorem bA2(g:Nat)(a c:Int)(s:Value)(w:World)(h:Tk w g a 0 s):
  Calls Tryz.prog 211 #[.pointer (some ⟨g,0,none⟩),.bool false,.int .i64 c] w fun e' w' =>e' =.returned (.bool false)∧w=w' :=by
 obtain⟨h0,h1,h2,f0,f1⟩:=aH4 h;clear h;go_enter Tryz.func211,Tryz.ntmps211
 go_wp2;go_ret
 exact⟨rfl,rfl⟩
theorem aQ4(g:Nat)(a c:Int)(s:Value)(w:World)(h:Tk w g a 0 s)(hc:c≠0):
  Calls Tryz.prog 211 #[.pointer (some ⟨g,0,none⟩),.bool true,.int .i64 c] w fun e' w' =>e' =.returned (.bool true)∧Tk w' g a c s∧w.grownBy w' (some g):=by
 obtain⟨h0,h1,h2,f0,f1⟩:=aH4 h;have a8:Tk (w.setCell ⟨g,1,none⟩ (.int .i64 c)) g a c s∧w.grownBy (w.setCell ⟨g,1,none⟩ (.int .i64 c)) (some g):=⟨h.set_ 1 _,aA0 _ _ _ _⟩;clear h;have a9:(c !=0)=true:=by simpa using hc
 go_enter Tryz.func211,Tryz.ntmps211
 go_wp2;go_ret
 exact⟨rfl,a8⟩
def bV3(a e:Int):Int:=if e=0 then a else 0
theorem cK3(g:Nat)(a e:Int)(s:Value)(w:World)(h:Tk w g a e s):
  Calls Tryz.prog 187 #[.pointer (some ⟨g,0,none⟩)] w fun e' w' =>e' =.returned (.int .i64 (bV3 a e))∧w' =w:=by
 obtain⟨h0,h1,h2,f0,f1⟩:=aH4 h;clear h;by_cases he:e=0
 ·subst he
  rw[show bV3 a 0=a from rfl];go_enter Tryz.func187,Tryz.ntmps187
  go_wp2;go_ret
  exact⟨rfl,rfl⟩
 have a8:(e !=0)=true:=by simpa using he
 rw[show bV3 a e=0 from if_neg he];go_enter Tryz.func187,Tryz.ntmps187
 go_wp2;go_ret
 exact⟨rfl,rfl⟩
end
section
section
variable{P:Program}{ops:Array Oper}{md:Region.Mode}{C:World->Prop}
def dL9(P:Program)(md:Region.Mode)(ops:Array Oper)(C:World->Prop)(n:Nat)(L:Array Bool->Act->Prop):Nat->Array Bool->Act->Prop
 |0,listed,a=>L listed a
 |f+1,listed,a=>Region.ready md ops listed≠[]∧∀i∈Region.ready md ops listed,i<n∧qOp P ops C i (dL9 P md ops C n L f (listed.setIfInBounds i true)) a
theorem bJ7{n g:Nat}{L:Array Bool->Act->Prop}{Q' :Exit->Act->World->Prop}(hL:∀listed a w,C w->L listed a->wpAny P md ops Q' g listed a w):
  ∀(f:Nat) (listed:Array Bool) (a:Act) (w:World),C w->dL9 P md ops C n L f listed a->wpAny P md ops Q' (f+g) listed a w
 |0,listed,a,w,hw,h=>by rw[Nat.zero_add];exact hL _ _ _ hw h
 |f+1,listed,a,w,hw,h=>by
  rw[show f+1+g=(f+g)+1 by omega];exact⟨fun h0=>absurd h0 h.1,fun i hi=>wpOp_of_qOp hw (fun a' w' hw' h' =>bJ7 hL f _ a' w' hw' h') (h.2 i hi).2⟩
theorem cO4{n i:Nat}{oi:Oper}{v:Value}{L:Array Bool->Act->Prop}(hi:ops[i]? =some oi)(d9:∀(j:Nat) (o:Oper) cs b,ops[j]? =some o->o.op≠.select cs b)
  (hs:Region.sinkB md ops n=true) (hc:Region.chainB md ops n=true) (hn:n<ops.size) (i6:i<n)
  (f6:∀a8 a,L a8 a->∀j∈Region.ready md ops a8,n<=j):
  ∀(f:Nat) (a8:Array Bool) (a:Act),HeadInv md ops n a8→
   (∀j oj,ops[j]? =some oj->j≠i->a8.getD j true=false->(∀e∈oj.after,Region.binds md e=true->e.on≠i)->oi.apart ops oj=true)→
   i∈Region.ready md ops a8->YieldsIn P ops C oi v a→
   dL9 P md ops C n L f (a8.setIfInBounds i true) (a.put oi.dst v)->dL9 P md ops C n L (f+1) a8 a:=by
 intro f;induction f with
 |zero=>
  intro a8 a f9 _ hr hy H;refine⟨fun h=>(by rw[h] at hr;cases hr),fun j hj=>?_⟩;have f8:j<n:=by
   rcases Nat.lt_or_ge j n with h|h
   ·exact h
   exact absurd hj (tail_waits hs hc hn f9 _ i rfl i6 (mem_ready.1 hr).1 j h)
  refine⟨f8,?_⟩;by_cases hji:j=i
  ·subst hji;exact hy.qOp hi H
  have:=f6 _ _ H j (ready_mono hj hji);omega
 |succ f ih=>
  intro a8 a f9 a9 hr hy H;have f7:=(mem_ready.1 hr).1;refine⟨fun h=>(by rw[h] at hr;cases hr),fun j hj=>?_⟩;have f8:j<n:=by
   rcases Nat.lt_or_ge j n with h|h
   ·exact h
   exact absurd hj (tail_waits hs hc hn f9 _ i rfl i6 f7 j h)
  refine⟨f8,?_⟩;by_cases hji:j=i
  ·subst hji;exact hy.qOp hi H
  have h1:=(H.2 j (ready_mono hj hji)).2;obtain⟨d8,oj,g9,i4⟩:=mem_ready.1 hj;have g8:∀e∈oj.after,Region.binds md e=true->e.on≠i:=fun e he hb heq=>by
   have h1:=i4 e he hb;rw[heq,getD_both f7] at h1;cases h1
  have h2:=qOp_put g9 (a9 j oj g9 hji d8 g8) (fun cs b=>d9 i oi cs b hi) (fun cs b=>d9 j oj cs b g9) hy h1;have b8:∀k ok,ops[k]? =some ok->k≠i->(a8.setIfInBounds j true).getD k true=false→
    (∀e∈ok.after,Region.binds md e=true->e.on≠i)->oi.apart ops ok=true:=fun k ok hk hki f7 hno=>by
   refine a9 k ok hk hki ?_ hno;by_cases hjk:j=k
   ·subst hjk;exact d8
   rw[getD_set_ne true hjk] at f7;exact f7
  refine qOp_mono (fun a' h3=>ih (a8.setIfInBounds j true) a' (f9.set hj f8) b8 (ready_mono hr (Ne.symm hji)) h3.1 ?_) h2;rw[Array.setIfInBounds_comm _ _ hji];exact h3.2
theorem cI3{n g:Nat}{Lq:Act->Prop}(hsel:Region.noSelect ops=true)(hs:Region.sinkB md ops n=true)(hc:Region.chainB md ops n=true)(hn:n<ops.size):
  ∀(l:List Oper) (k:Nat) (listed:Array Bool) (a:Act),(∀j,j<l.length->l[j]? =ops[k+j]?)->k+l.length=n->HeadInv md ops n listed→
  Region.lexHead md ops g l.length k listed=true->wpQuiet P ops C Lq l a→
  dL9 P md ops C n (fun listed' a' =>Region.seqB md ops g n listed' =true∧Lq a') l.length listed a
 |[],k,listed,a,_,hk,_,hB,h=>by
  have:k=n:=by simpa using hk
  subst this;exact⟨by simpa[Region.lexHead] using hB,h⟩
 |o::l,k,listed,a,hl,hk,inv,hB,h=>by
  have h0:ops[k]? =some o:=by simpa using(hl 0 (by simp)).symm
  simp only[mC,Region.lexHead,Bool.and_eq_true] at hB;obtain⟨⟨hr,hf⟩,hB'⟩:=hB;have hkn:k<n:=by simp only[mC] at hk;omega
  have hr' :k∈Region.ready md ops listed:=by simpa using hr
  have hst:qOp P ops C k (wpQuiet P ops C Lq l) a:=by unfold qOp;simp only[h0];exact h
  obtain⟨v,hy,hK⟩:=yieldsIn_of_qOp h0 hst;exact cO4 h0 (Region.noSelect_spec hsel) hs hc hn hkn (fun listed' a' hL=>seqB_ready hL.1) l.length listed a inv (Region.free_spec h0 hf) hr' hy
   (cI3 hsel hs hc hn l (k+1) _ _ (fun j hj=>by have:=hl (j+1) (by simp;omega);simpa[Nat.add_assoc,Nat.add_comm 1 j] using this) (by simp only[mC] at hk;omega) (inv.set hr' hkn) hB' hK)
theorem aB3{id:Nat}{Q:Exit->Act->World->Prop}{a:Act}{w:World}{l:List Oper}(n:Nat)(hm:P.follows .mixedOrders=true)(hB:Region.lexTailB .any l.toArray n=true)
  (h:wpQuiet P l.toArray (fun w' =>∃n,w' =w.drewN n) (fun a' =>∀w',(∃n,w' =w.drewN n)->wpList P l.toArray Q (l.drop n) a' w') (l.take n) a):(Code.region id l.toArray true).wp P Q a w:=by
 simp only[Region.lexTailB,Bool.and_eq_true,decide_eq_true_eq] at hB;obtain⟨⟨⟨⟨d8,hn⟩,hs⟩,hc⟩,b8⟩:=hB;have f7:n<l.length:=by simpa using hn
 have a8:(l.take n).length=n:=by simp;omega
 have d9:(l.drop n).length=l.toArray.size-n:=by simp
 have a9:HeadInv .any l.toArray n (Array.replicate l.toArray.size false):=
  ⟨by simp,fun j oj _ hl=>(by rw[getD_replicate_false] at hl;cases hl),fun t _ ht=>getD_in (by simpa using ht) (getD_replicate_false _ _)⟩
 have H:=cI3 (md:=.any) (g:=l.toArray.size-n) d8 hs hc hn (l.take n) 0 _ a (fun j hj=>by
  have f6:j<n:=by rw[a8] at hj;exact hj
  simp[f6]) (by simpa using a8) a9 (by rw[a8];exact b8) h
 refine wp_region_any hm ?_;have:=bJ7 (Q' :=Q) (g:=l.toArray.size-n) (fun listed a' w' hw' hL=>by
  have:=wpAny_of_seq (md:=.any) (Q' :=Q) (l.drop n) n listed a' w' (fun j=>by simp[List.getElem?_drop]) (by rw[d9];exact hL.1) (hL.2 w' hw')
  rwa[d9] at this) _ _ _ w.drew ⟨1,rfl⟩ H
 rw[a8,show n+(l.toArray.size-n)=l.toArray.size by omega] at this;exact this
end
end
section
open Go.RowKit Oct
theorem cD7(x:UInt8):bits .andNot .u8 (x.toNat:Int) 128=((x.toNat %128:Nat):Int):=by
 have h:=bF0 x.toNat;have hx:=x.toNat_lt;rw[show((x.toNat:Int) %256)=x.toNat by omega] at h;rw[h,dK8,aJ3 _ (by omega)]
theorem dM2(m:Nat)(hm:m<2^64):bits .and .u64 (m:Int) 127=((m %128:Nat):Int):=by
 have:=u64_and_nat m 127 (by omega) (by omega);rw[show((127:Nat):Int)=127 from rfl] at this;rw[this]
 congr 1
 rw[show(127:Nat)=2^7-1 from rfl,Nat.and_two_pow_sub_one_eq_mod]
theorem bT6(k d:Nat)(hk:k<2^57)(hd:d<128):bits .or .u64 ((k:Int)*128) (d:Int)=((k*128+d:Nat):Int):=by
 have:=u64_or_nat (k*128) d (by omega) (by omega);rw[show((k*128:Nat):Int)=(k:Int)*128 by simp] at this;rw[this]
 congr 1
 have h2:=Nat.two_pow_add_eq_or_of_lt (i:=7) hd k;rw[show(2:Nat)^7=128 from rfl] at h2;rw[Nat.mul_comm k 128,<-h2]
def bad(m i k:Nat)(x:UInt8):Bool:=((i==0)&&x==128)||decide (m/128<k)||(decide (k=m/128)&&decide (m %128<x.toNat %128))
theorem aW3(m i k:Nat)(x:UInt8)(r:List UInt8):tkc m (i==0) k i (x::r)=if bad m i k x then(0,i+1,4) else if x.toNat<128 then(k*128+x.toNat %128,i+1,0) else tkc m (i+1==0) (k*128+x.toNat %128) (i+1) r:=by
 rw[tkc]
 rfl
section
variable{a m i k d c g:Nat}{x:UInt8}{l:List UInt8}{w w3:World}{s:Value}
theorem dL8(m k:Nat)(hi:i=0)(hx:x.toNat=128):bad m i k x=true:=by
 have:x=128:=UInt8.toNat_inj.1 hx;subst this;subst hi;simp[bad]
theorem dD1(i:Nat)(x:UInt8)(h:m/128<k):bad m i k x=true:=by simp[bad,h]
theorem dG6(i:Nat)(h:m/128=k)(hd:m %128<x.toNat %128):bad m i k x=true:=by simp[bad,h,hd]
theorem bG3(h1:i≠0∨x.toNat≠128)(h2:k<=m/128)(h3:m/128=k->x.toNat %128<=m %128):bad m i k x=false:=by
 have hx:i=0->¬x=128:=by
  rintro hi rfl;rcases h1 with h1|h1
  ·exact h1 hi
  exact h1 rfl
 simp only[bad,Bool.or_eq_false_iff,Bool.and_eq_false_iff,decide_eq_false_iff_not,beq_eq_false_iff_ne];refine⟨⟨?_,by omega⟩,?_⟩
 ·by_cases hi:i=0
  ·exact .inr (hx hi)
  exact .inl hi
 by_cases hk:k=m/128
 ·have:=h3 hk.symm;exact .inr (by omega)
 exact .inl hk
theorem dH3(h:bad m i k x=false):k*128+x.toNat %128<=m:=by
 simp only[bad,Bool.or_eq_false_iff,Bool.and_eq_false_iff,decide_eq_false_iff_not] at h;omega
theorem bL0(hh:Hid (tkc m true 0 0 (l.drop a)=tkc m (i==0) k i (l.drop (a+i))))(hd:l.drop (a+i)=x::l.drop (a+i+1))(hb:bad m i k x=true)
  (ht:Tk w3 g (a+i+1:Nat) 4 s) (hg:w.grownBy w3 (some g)):
  Ending.returned (.int .u64 0)=.returned (.int .u64 (tkc m true 0 0 (l.drop a)).1)∧Tk w3 g (a+(tkc m true 0 0 (l.drop a)).2.1:Nat) (tkc m true 0 0 (l.drop a)).2.2 s∧w.grownBy w3 (some g):=by
 rw[hh.out,hd,aW3,if_pos hb];exact⟨rfl,ht,hg⟩
theorem bH7{X:Int}(hh:Hid (tkc m true 0 0 (l.drop a)=tkc m (i==0) k i (l.drop (a+i))))(hd:l.drop (a+i)=x::l.drop (a+i+1))(hb:bad m i k x=false)(hx:x.toNat<128)
  (a8:d=x.toNat %128) (hX:X=(k*128+d:Nat)) (ht:Tk w3 g (a+i+1:Nat) 0 s) (hg:w.grownBy w3 (some g)):
  Ending.returned (.int .u64 X)=.returned (.int .u64 (tkc m true 0 0 (l.drop a)).1)∧Tk w3 g (a+(tkc m true 0 0 (l.drop a)).2.1:Nat) (tkc m true 0 0 (l.drop a)).2.2 s∧w.grownBy w3 (some g):=by
 rw[hh.out,hd,aW3,if_neg (by rw[hb];exact Bool.false_ne_true),if_pos hx];exact⟨by rw[hX,a8],ht,hg⟩
theorem aW4{X:Int}(hh:Hid (tkc m true 0 0 (l.drop a)=tkc m (i==0) k i (l.drop (a+i))))(hd:l.drop (a+i)=x::l.drop (a+i+1))(hb:bad m i k x=false)(hx:¬x.toNat<128)
  (a8:d=x.toNat %128) (hX:X=(k*128+d:Nat)) (ht:Tk w3 g (a+i+1:Nat) 0 s) (hg:w.grownBy w3 (some g)) (a9:a+i<l.length):
  ∃i' k' :Nat,a+i' <=l.length∧Value.int .u64 X=.int .u64 k' ∧k' <=m∧Tk w3 g (a+i' :Nat) 0 s∧w.grownBy w3 (some g)∧Hid (tkc m true 0 0 (l.drop a)=tkc m (i' ==0) k' i' (l.drop (a+i'))):=by
 refine⟨i+1,k*128+d,by omega,by rw[hX],by rw[a8];exact dH3 hb,ht,hg,?_⟩;show tkc m true 0 0 (l.drop a)=_
 rw[hh.out,hd,aW3,if_neg (by rw[hb];exact Bool.false_ne_true),if_neg hx,a8]
 rfl
theorem aP8{wr:World}(h1:w3.cell? ⟨g,0,none⟩=some (.int .i64 (a+i+1:Nat)))(h0:Hid (wr.cell? ⟨g,0,none⟩=some (.int .i64 (a+i:Nat))))(a8:a+i<l.length):
  l.length-(intOf ((w3.cell? ⟨g,0,none⟩).getD undef)).toNat<l.length-(intOf ((wr.cell? ⟨g,0,none⟩).getD undef)).toNat:=by
 rw[h1,h0.out];simp[intOf]
 omega
end
theorem cQ9(g:Nat)(a m:Nat)(A:Option Addr)(l:List UInt8)(c:Nat)(w:World)(h:Tk w g a 0 (.slice A l.length c))(hm:m<2^64)(ha:a<=l.length)(hl:l.length<=4611686018427387904)
  (hr:Rd w g A (cells l)):
  Calls Tryz.prog 186 #[.pointer (some ⟨g,0,none⟩),.int .u64 m] w fun e' w' =>e' =.returned (.int .u64 (tkc m true 0 0 (l.drop a)).1)∧
   Tk w' g (a+(tkc m true 0 0 (l.drop a)).2.1:Nat) (tkc m true 0 0 (l.drop a)).2.2 (.slice A l.length c)∧w.grownBy w' (some g):=by
 have Hm:=qZ hm;clear hm;have l5:Tk w g (a+0:Nat) 0 (.slice A l.length c):=h;have l9:Hid (tkc m true 0 0 (l.drop a)=tkc m ((0:Nat)==0) 0 0 (l.drop (a+0))):=qZ rfl;obtain⟨h0,h1,h2,f0,f1⟩:=aH4 h;go_enter Tryz.func186,Tryz.ntmps186
 go_wp2_with fail
 go_quiet (fail);go_wp2_with fail
 go_loopw [5,7,8] (fun n x y wr=>∃i k:Nat,a+i<=l.length∧n=.int .u64 k∧k<=m∧Tk wr g (a+i:Nat) 0 (.slice A l.length c)∧w.grownBy wr (some g)∧Hid (tkc m true 0 0 (l.drop a)=tkc m (i==0) k i (l.drop (a+i)))) (fun _ _ _ wr=>l.length-(intOf ((wr.cell? ⟨g,0,none⟩).getD undef)).toNat)
 case atStart=>exact⟨0,0,by omega,rfl,by omega,l5,aK4 (World.grownBy.refl _ _) _,l9⟩
 obtain⟨i,k,hi,rfl,hk,j6,hg,hh⟩:=hrel;obtain⟨h0,h1,h2,f0,f1⟩:=aH4 j6;by_cases hlt:a+i<l.length
 rotate_left
 ·have m3:l.length<=a+i:=by omega
  have g9:∀n,Tk (wr.drewN n) g (a+i:Nat) 0 (.slice A l.length c):=fun _=>j6
  go_wp2_with fail
  refine aB3 8 (by kernel_rfl) (by kernel_rfl) ?_;simp only[List.take_succ_cons,List.take_zero,List.drop_succ_cons,List.drop_zero]
  iterate 8 go_big_quiet_step (fail)
  refine wpQuiet_nil ?_;rintro _ ⟨nt,rfl⟩;go_wp2_with fail
  refine(dH6 g (a+i:Nat) 1 l.length _ _ (g9 _) (by omega) (by omega) (by omega)).mono ?_;rintro e w1 ⟨rfl,f7,j8⟩;go_wp2;go_ret
  have hd:l.drop (a+i)=[]:=List.drop_eq_nil_of_le m3;rw[hh.out,hd];exact⟨rfl,f7,aA4 hg (aH2 j8) (.inl rfl)⟩
 obtain⟨ad,rfl,m7,f9⟩:=aQ1 hr hlt;obtain⟨x,hx⟩:∃x,x=l[a+i]:=⟨_,rfl⟩
 have a9:l.drop (a+i)=x::l.drop (a+i+1):=by rw[hx];exact List.drop_eq_getElem_cons hlt
 rw[<-hx] at f9;have m6:=x.toNat_lt;clear hx;have g9:∀n,Tk (wr.drewN n) g (a+i:Nat) 0 (.slice (some ad) l.length c):=fun _=>j6
 obtain⟨d,hd⟩:∃d,d=x.toNat %128:=⟨_,rfl⟩
 have j9:d<128:=by omega
 have m2:bits .andNot .u8 (x.toNat:Int) 128=(d:Int):=by rw[cD7,hd]
 have m0:=dM2 m Hm.out;have HD:=qZ hd;clear hd;go_wp2_with fail
 refine aB3 8 (by kernel_rfl) (by kernel_rfl) ?_;simp only[List.take_succ_cons,List.take_zero,List.drop_succ_cons,List.drop_zero]
 iterate 8 go_big_quiet_step (fail)
 refine wpQuiet_nil ?_;rintro _ ⟨nt,rfl⟩;go_wp2_with fail
 refine(dL7 g (a+i:Nat) 1 l.length _ _ (g9 _) (by omega) (by omega) (by omega) (by omega) (by omega) (by omega)).mono ?_;rintro e w1 ⟨rfl,f7,j8⟩;have l8:=aA4 hg (aH2 j8) (.inl rfl);obtain⟨q0,q1,q2,q3,q4⟩:=aH4 f7;have m4:w1.cell? (ad.add (a+i))=some (.int .u8 (x.toNat:Int)):=by
  refine(World.cell?_of_block (w:=w) ?_).trans f9;rw[aC7];exact l8.block ad.block (by have:=h.lt;omega) (by simp;omega)
 have l7:=qZ h0;clear h0 h1 h2 f0 f1 j6 g9 hg j8 f9;go_wp2_with fail
 go_quiet (fail);go_wp2_with fail
 have b8:Tk (w1.drewN nq) g (a+i+1:Nat) 0 (.slice (some ad) l.length c):=f7;have d9:w.grownBy (w1.drewN nq) (some g):=aK4 l8 nq;clear f7 l8 q0 q1 q2 q3 q4 m4;generalize w1.drewN nq=w2 at b8 d9⊢
 obtain⟨q0,q1,q2,q3,q4⟩:=aH4 b8;have l4:=l7;have m5:IntKind.i64.wrap ((a:Int)+1)=a+1:=mH _ (by omega);rcases Nat.eq_zero_or_pos i with i6|i6
 rotate_left
 ·have g1:((a:Int)+i+1==a+1)=false:=by simp;omega
  have HI:=qZ i6;have HX:=HI;rcases Nat.lt_trichotomy (m/128) k with f6|f6|f6
  ·have e1:¬((k:Int)<=(m:Int)/128):=by omega
   have e2:(m:Int)/128<k:=by omega
   have HB:=qZ (dD1 i x f6);refine aB3 33 (by kernel_rfl) (by kernel_rfl) ?_;simp only[List.take_succ_cons,List.take_zero,List.drop_succ_cons,List.drop_zero]
   iterate 33 go_big_quiet_step (fail)
   refine wpQuiet_nil ?_;rintro _ ⟨nt,rfl⟩;go_wp2_with fail
   refine(aQ4 g (a+i+1:Nat) 4 _ _ (b8.drewN nt) (by omega)).mono ?_;rintro e w3 ⟨rfl,a8,g8⟩;go_wp2;go_ret
   exact bL0 hh a9 HB.out a8 (aA4 d9 (aH2 g8) (.inl rfl))
  ·rcases Nat.lt_or_ge (m %128) d with i4|i4
   ·have e1:¬((d:Int)<=(m:Int) %128):=by omega
    have e2:(m:Int) %128<d:=by omega
    have HB:=qZ (dG6 i f6 (by rw[<-HD.out];exact i4));subst f6;refine aB3 33 (by kernel_rfl) (by kernel_rfl) ?_;simp only[List.take_succ_cons,List.take_zero,List.drop_succ_cons,List.drop_zero]
    iterate 33 go_big_quiet_step (fail)
    refine wpQuiet_nil ?_;rintro _ ⟨nt,rfl⟩;go_wp2_with fail
    refine(aQ4 g (a+i+1:Nat) 4 _ _ (b8.drewN nt) (by omega)).mono ?_;rintro e w3 ⟨rfl,a8,g8⟩;go_wp2;go_ret
    exact bL0 hh a9 HB.out a8 (aA4 d9 (aH2 g8) (.inl rfl))
   have e1:(d:Int)<=(m:Int) %128:=by omega
   have e2:¬(m:Int) %128<d:=by omega
   have HB:=qZ (bG3 (m:=m) (i:=i) (k:=k) (x:=x) (by have:=HI.out;have:=HX.out;omega) (by omega) (by intro _;rw[<-HD.out];exact i4));subst f6;refine aB3 33 (by kernel_rfl) (by kernel_rfl) ?_;simp only[List.take_succ_cons,List.take_zero,List.drop_succ_cons,List.drop_zero]
   iterate 33 go_big_quiet_step (fail)
   refine wpQuiet_nil ?_;rintro _ ⟨nt,rfl⟩;go_wp2_with fail
   refine(bA2 g (a+i+1:Nat) 4 _ _ (b8.drewN nt)).mono ?_;rintro e w3 ⟨rfl,rfl⟩;have f8:=qZ (bT6 (m/128) d (by have:=Hm.out;omega) j9);have a8:Tk (w2.drewN nt) g (a+i+1:Nat) 0 (.slice (some ad) l.length c):=b8.drewN nt;have d8:=aK4 d9 nt;have l6:m/128<=144115188075855871:=by have:=Hm.out;omega
   by_cases hx128:x.toNat<128
   ·go_wp2
    go_ret
    exact bH7 hh a9 HB.out hx128 HD.out f8.out a8 d8
   go_wp2;go_roundw
   case rel=>exact aW4 hh a9 HB.out hx128 HD.out f8.out a8 d8 hlt
   case measure=>exact aP8 (a8.cell 0) l4 hlt
  have e1:((k:Int)<=(m:Int)/128):=by omega
  have e2:¬(m:Int)/128<k:=by omega
  have e3:¬((k:Int)=(m:Int)/128):=by omega
  have e4:((k:Int)==(m:Int)/128)=false:=by simp;omega
  have HB:=qZ (bG3 (m:=m) (i:=i) (k:=k) (x:=x) (by have:=HI.out;have:=HX.out;omega) (by omega) (by omega));refine aB3 33 (by kernel_rfl) (by kernel_rfl) ?_;simp only[List.take_succ_cons,List.take_zero,List.drop_succ_cons,List.drop_zero]
  iterate 33 go_big_quiet_step (fail)
  refine wpQuiet_nil ?_;rintro _ ⟨nt,rfl⟩;go_wp2_with fail
  refine(bA2 g (a+i+1:Nat) 4 _ _ (b8.drewN nt)).mono ?_;rintro e w3 ⟨rfl,rfl⟩;have f8:=qZ (bT6 k d (by have:=Hm.out;omega) j9);have a8:Tk (w2.drewN nt) g (a+i+1:Nat) 0 (.slice (some ad) l.length c):=b8.drewN nt;have d8:=aK4 d9 nt;have l6:k<=144115188075855871:=by have:=Hm.out;omega
  by_cases hx128:x.toNat<128
  ·go_wp2
   go_ret
   exact bH7 hh a9 HB.out hx128 HD.out f8.out a8 d8
  go_wp2;go_roundw
  case rel=>exact aW4 hh a9 HB.out hx128 HD.out f8.out a8 d8 hlt
  case measure=>exact aP8 (a8.cell 0) l4 hlt
 have g1:((a:Int)+i+1==a+1)=true:=by simp;omega
 have HI:=qZ i6;by_cases hx8:x.toNat=128
 ·have g3:((x.toNat:Int)==128)=true:=by simp;omega
  have HB:=qZ (dL8 m k i6 hx8);clear i6 hx8;refine aB3 33 (by kernel_rfl) (by kernel_rfl) ?_;simp only[List.take_succ_cons,List.take_zero,List.drop_succ_cons,List.drop_zero]
  iterate 33 go_big_quiet_step (fail)
  refine wpQuiet_nil ?_;rintro _ ⟨nt,rfl⟩;go_wp2_with fail
  refine(aQ4 g (a+i+1:Nat) 4 _ _ (b8.drewN nt) (by omega)).mono ?_;rintro e w3 ⟨rfl,a8,g8⟩;go_wp2;go_ret
  exact bL0 hh a9 HB.out a8 (aA4 d9 (aH2 g8) (.inl rfl))
 have g3:((x.toNat:Int)==128)=false:=by simp;omega
 have HX:=qZ hx8;clear i6 hx8;rcases Nat.lt_trichotomy (m/128) k with f6|f6|f6
 ·have e1:¬((k:Int)<=(m:Int)/128):=by omega
  have e2:(m:Int)/128<k:=by omega
  have HB:=qZ (dD1 i x f6);refine aB3 33 (by kernel_rfl) (by kernel_rfl) ?_;simp only[List.take_succ_cons,List.take_zero,List.drop_succ_cons,List.drop_zero]
  iterate 33 go_big_quiet_step (fail)
  refine wpQuiet_nil ?_;rintro _ ⟨nt,rfl⟩;go_wp2_with fail
  refine(aQ4 g (a+i+1:Nat) 4 _ _ (b8.drewN nt) (by omega)).mono ?_;rintro e w3 ⟨rfl,a8,g8⟩;go_wp2;go_ret
  exact bL0 hh a9 HB.out a8 (aA4 d9 (aH2 g8) (.inl rfl))
 ·rcases Nat.lt_or_ge (m %128) d with i4|i4
  ·have e1:¬((d:Int)<=(m:Int) %128):=by omega
   have e2:(m:Int) %128<d:=by omega
   have HB:=qZ (dG6 i f6 (by rw[<-HD.out];exact i4));subst f6;refine aB3 33 (by kernel_rfl) (by kernel_rfl) ?_;simp only[List.take_succ_cons,List.take_zero,List.drop_succ_cons,List.drop_zero]
   iterate 33 go_big_quiet_step (fail)
   refine wpQuiet_nil ?_;rintro _ ⟨nt,rfl⟩;go_wp2_with fail
   refine(aQ4 g (a+i+1:Nat) 4 _ _ (b8.drewN nt) (by omega)).mono ?_;rintro e w3 ⟨rfl,a8,g8⟩;go_wp2;go_ret
   exact bL0 hh a9 HB.out a8 (aA4 d9 (aH2 g8) (.inl rfl))
  have e1:(d:Int)<=(m:Int) %128:=by omega
  have e2:¬(m:Int) %128<d:=by omega
  have HB:=qZ (bG3 (m:=m) (i:=i) (k:=k) (x:=x) (by have:=HI.out;have:=HX.out;omega) (by omega) (by intro _;rw[<-HD.out];exact i4));subst f6;refine aB3 33 (by kernel_rfl) (by kernel_rfl) ?_;simp only[List.take_succ_cons,List.take_zero,List.drop_succ_cons,List.drop_zero]
  iterate 33 go_big_quiet_step (fail)
  refine wpQuiet_nil ?_;rintro _ ⟨nt,rfl⟩;go_wp2_with fail
  refine(bA2 g (a+i+1:Nat) 4 _ _ (b8.drewN nt)).mono ?_;rintro e w3 ⟨rfl,rfl⟩;have f8:=qZ (bT6 (m/128) d (by have:=Hm.out;omega) j9);have a8:Tk (w2.drewN nt) g (a+i+1:Nat) 0 (.slice (some ad) l.length c):=b8.drewN nt;have d8:=aK4 d9 nt;have l6:m/128<=144115188075855871:=by have:=Hm.out;omega
  by_cases hx128:x.toNat<128
  ·go_wp2
   go_ret
   exact bH7 hh a9 HB.out hx128 HD.out f8.out a8 d8
  go_wp2;go_roundw
  case rel=>exact aW4 hh a9 HB.out hx128 HD.out f8.out a8 d8 hlt
  case measure=>exact aP8 (a8.cell 0) l4 hlt
 have e1:((k:Int)<=(m:Int)/128):=by omega
 have e2:¬(m:Int)/128<k:=by omega
 have e3:¬((k:Int)=(m:Int)/128):=by omega
 have e4:((k:Int)==(m:Int)/128)=false:=by simp;omega
 have HB:=qZ (bG3 (m:=m) (i:=i) (k:=k) (x:=x) (by have:=HI.out;have:=HX.out;omega) (by omega) (by omega));refine aB3 33 (by kernel_rfl) (by kernel_rfl) ?_;simp only[List.take_succ_cons,List.take_zero,List.drop_succ_cons,List.drop_zero]
 iterate 33 go_big_quiet_step (fail)
 refine wpQuiet_nil ?_;rintro _ ⟨nt,rfl⟩;go_wp2_with fail
 refine(bA2 g (a+i+1:Nat) 4 _ _ (b8.drewN nt)).mono ?_;rintro e w3 ⟨rfl,rfl⟩;have f8:=qZ (bT6 k d (by have:=Hm.out;omega) j9);have a8:Tk (w2.drewN nt) g (a+i+1:Nat) 0 (.slice (some ad) l.length c):=b8.drewN nt;have d8:=aK4 d9 nt;have l6:k<=144115188075855871:=by have:=Hm.out;omega
 by_cases hx128:x.toNat<128
 ·go_wp2
  go_ret
  exact bH7 hh a9 HB.out hx128 HD.out f8.out a8 d8
 go_wp2;go_roundw
 case rel=>exact aW4 hh a9 HB.out hx128 HD.out f8.out a8 d8 hlt
 case measure=>exact aP8 (a8.cell 0) l4 hlt
end
section
open Go.RowKit Oct
theorem bK1:(9223372036854775807:Int)=(maxI:Int):=rfl
theorem cD9:(18446744073709551615:Int)=(maxU:Int):=rfl
theorem bK0:maxI<2^64:=by decide
theorem cE9:maxU<2^64:=by decide
theorem bC2(g a m:Nat)(M:Int)(hM:M=(m:Int))(A:Option Addr)(l:List UInt8)(c:Nat)(w:World)(h:Tk w g a 0 (.slice A l.length c))(hm:m<2^64)(ha:a<=l.length)(hl:l.length<=4611686018427387904)
  (hr:Rd w g A (cells l)):
  Calls Tryz.prog 186 #[.pointer (some ⟨g,0,none⟩),.int .u64 M] w fun e' w' =>e' =.returned (.int .u64 (cnt m (l.drop a)).1)∧
   Tk w' g (a+(cnt m (l.drop a)).2.1:Nat) (cnt m (l.drop a)).2.2 (.slice A l.length c)∧w.grownBy w' (some g):=by
 subst hM;exact cQ9 g a m A l c w h hm ha hl hr
theorem cB0(w:World)(s:Value):Tk (w.alloc (.cells #[.int .i64 0,.int .i64 0,s] 220)) w.heap.size 0 0 s:=Blk.new _ _ _
theorem aU5{w w1:World}{o:Obj}(h:(w.alloc o).grownBy w1 (some w.heap.size)):Below w.heap.size w w1:=
 ((lS _ w).alloc (lR _) o).trans ⟨h.os,h.tape,h.output,h.size,fun k hk=>h.block k (by simp;omega) (by simp;omega)⟩
theorem bJ1(a:Nat)(e:Int):bV3 (a:Int) e=((if e=0 then a else 0:Nat):Int):=by
 unfold bV3;split<;>rfl
theorem aN4(A:Option Addr)(l:List UInt8)(c:Nat)(w:World)(hr:Rd w w.heap.size A (cells l))(hl:l.length<=4611686018427387904):
  Calls Tryz.prog 150 #[.slice A l.length c] w fun e w' =>e=.returned (.tuple #[.int .i64 (aA2 maxI l).1,.int .i64 (aA2 maxI l).2.1,.int .i64 (aA2 maxI l).2.2])∧Below w.heap.size w w' :=by
 go_enter Tryz.func150,Tryz.ntmps150
 go_wp2_with fail
 refine(bC2 w.heap.size 0 maxI _ bK1 A l c _ (cB0 _ _) bK0 (by omega) hl (hr.alloc (lR _) _)).mono ?_;rintro e w1 ⟨rfl,a8,hg⟩;have hb:=aU5 hg;rw[List.drop_zero,Nat.zero_add] at a8;rw[List.drop_zero];have a9:(cnt maxI l).1<=9223372036854775807:=cJ8 maxI l;obtain⟨h0,h1,h2,f0,f1⟩:=aH4 a8;clear hg;go_wp2_with fail
 go_quiet ((go_at_call 187;exact Calls.quiet_of_same (cK3 _ _ _ _ _ (a8.drewN _))));go_wp2;go_ret3
 exact⟨dN4 rfl (congrArg (Value.int .i64) (bJ1 _ _)) rfl,aA3 hb _⟩
theorem cE5(u:Nat)(hu:u<=maxU):bits .xor .i64 (wrap64 ((u:Int)/2)) (wrap64 (-wrap64 (bits .and .u64 (u:Int) 1)))=aC9 u:=by
 have a8:u<=18446744073709551615:=hu;have h1:bits .and .u64 (u:Int) 1=((u %2:Nat):Int):=by
  have:=u64_and_nat u 1 (by omega) (by omega);rw[show((1:Nat):Int)=1 from rfl] at this;rw[this,Nat.and_one_is_mod]
 have h2:wrap64 ((u:Int)/2)=((u/2:Nat):Int):=by
  rw[IntWalk.wrap64_in _ ⟨by omega,by omega⟩];omega
 rw[h1,h2];have hb:(BitVec.ofInt 64 ((u/2:Nat):Int)).toNat=u/2:=by
  rw[BitVec.ofInt_natCast,BitVec.toNat_ofNat];exact Nat.mod_eq_of_lt (by omega)
 rcases Nat.mod_two_eq_zero_or_one u with h|h
 ·rw[h]
  have h3:wrap64 (-wrap64 ((0:Nat):Int))=0:=by unfold wrap64;decide
  rw[h3];show IntKind.i64.wrap ((BitVec.ofInt 64 ((u/2:Nat):Int)^^^BitVec.ofInt 64 0).toNat:Int)=_
  have h4:BitVec.ofInt 64 ((u/2:Nat):Int)^^^BitVec.ofInt 64 0=BitVec.ofInt 64 ((u/2:Nat):Int):=by
   rw[show BitVec.ofInt 64 0=0#64 from rfl,BitVec.xor_zero]
  rw[h4,hb,IntKind.wrap_i64,aC9,if_pos h];omega
 rw[h];have h3:wrap64 (-wrap64 ((1:Nat):Int))=-1:=by unfold wrap64;decide
 rw[h3];show IntKind.i64.wrap ((BitVec.ofInt 64 ((u/2:Nat):Int)^^^BitVec.ofInt 64 (-1)).toNat:Int)=_
 have h4:BitVec.ofInt 64 ((u/2:Nat):Int)^^^BitVec.ofInt 64 (-1)= ~~~ (BitVec.ofInt 64 ((u/2:Nat):Int)):=by
  rw[show BitVec.ofInt 64 (-1)=BitVec.allOnes 64 from rfl,BitVec.xor_allOnes]
 rw[h4,BitVec.toNat_not,hb,IntKind.wrap_i64,aC9,if_neg (by omega)];omega
theorem cK7(g a:Nat)(A:Option Addr)(l:List UInt8)(c:Nat)(w:World)(h:Tk w g a 0 (.slice A l.length c))(ha:a<=l.length)(hl:l.length<=4611686018427387904)(hr:Rd w g A (cells l)):
  Calls Tryz.prog 189 #[.pointer (some ⟨g,0,none⟩)] w fun e' w' =>e' =.returned (.int .i64 (aC9 (cnt maxU (l.drop a)).1))∧
   Tk w' g (a+(cnt maxU (l.drop a)).2.1:Nat) (cnt maxU (l.drop a)).2.2 (.slice A l.length c)∧w.grownBy w' (some g):=by
 go_enter Tryz.func189,Tryz.ntmps189
 go_wp2_with fail
 refine(bC2 g a maxU _ cD9 A l c _ h cE9 ha hl hr).mono ?_;rintro e w1 ⟨rfl,a9,hg⟩;have a8:=qZ (cJ8 maxU (l.drop a));go_wp2;go_ret
 exact⟨cR9 (cE5 _ a8.out),a9,hg⟩
theorem cD8(A:Option Addr)(l:List UInt8)(c:Nat)(w:World)(hr:Rd w w.heap.size A (cells l))(hl:l.length<=4611686018427387904):
  Calls Tryz.prog 154 #[.slice A l.length c] w fun e w' =>e=.returned (.tuple #[.int .i64 (aC9 (aA2 maxU l).1),.int .i64 (aA2 maxU l).2.1,.int .i64 (aA2 maxU l).2.2])∧Below w.heap.size w w' :=by
 go_enter Tryz.func154,Tryz.ntmps154
 go_wp2_with fail
 refine(cK7 w.heap.size 0 A l c _ (cB0 _ _) (by omega) hl (hr.alloc (lR _) _)).mono ?_;rintro e w1 ⟨rfl,a8,hg⟩;have hb:=aU5 hg;rw[List.drop_zero,Nat.zero_add] at a8;rw[List.drop_zero];obtain⟨h0,h1,h2,f0,f1⟩:=aH4 a8;clear hg;go_wp2_with fail
 go_quiet ((go_at_call 187;exact Calls.quiet_of_same (cK3 _ _ _ _ _ (a8.drewN _))));go_wp2;go_ret3
 exact⟨dN4 rfl (congrArg (Value.int .i64) (bJ1 _ _)) rfl,aA3 hb _⟩
def lenOf(m:Nat)(l:List UInt8):Nat×Int:=if(cnt maxI l).2.2=0 then(if m<(cnt maxI l).1 then(0,2) else((cnt maxI l).1,0)) else(0,(cnt maxI l).2.2)
theorem cT2(m:Nat)(l:List UInt8)(h:(cnt maxI l).2.2≠0):lenOf m l=(0,(cnt maxI l).2.2):=if_neg h
theorem cL9(m:Nat)(l:List UInt8)(h:(cnt maxI l).2.2=0)(h2:m<(cnt maxI l).1):lenOf m l=(0,2):=by unfold lenOf;rw[if_pos h,if_pos h2]
theorem dD6(m:Nat)(l:List UInt8)(h:(cnt maxI l).2.2=0)(h2:¬m<(cnt maxI l).1):lenOf m l=((cnt maxI l).1,0):=by unfold lenOf;rw[if_pos h,if_neg h2]
theorem bD6(g m:Nat)(A:Option Addr)(l:List UInt8)(c:Nat)(w:World)(h:Tk w g 0 0 (.slice A l.length c))(hl:l.length<=4611686018427387904)(hr:Rd w g A (cells l))(hm:m<=65536):
  Calls Tryz.prog 204 #[.pointer (some ⟨g,0,none⟩),.int .i64 m] w fun e' w' =>e' =.returned (.int .i64 (lenOf m l).1)∧
   Tk w' g ((cnt maxI l).2.1:Nat) (lenOf m l).2 (.slice A l.length c)∧w.grownBy w' (some g):=by
 have d9:(cnt maxI l).1<=9223372036854775807:=cJ8 maxI l;by_cases he:(cnt maxI l).2.2=0
 rotate_left
 ·rw[cT2 m l he]
  go_enter Tryz.func204,Tryz.ntmps204
  go_wp2_with fail
  refine(bC2 g 0 maxI _ bK1 A l c _ h bK0 (by omega) hl hr).mono ?_;rintro e w1 ⟨rfl,a8,hg⟩;rw[List.drop_zero,Nat.zero_add] at a8;rw[List.drop_zero];have HE:=qZ he;clear he;go_wp2_with fail
  refine(dA3 g _ _ 2 _ _ _ a8 HE.out).mono ?_;rintro e w2 ⟨rfl,rfl⟩;go_wp2;go_ret
  exact⟨rfl,a8,hg⟩
 by_cases hlt:m<(cnt maxI l).1
 ·rw[cL9 m l he hlt]
  go_enter Tryz.func204,Tryz.ntmps204
  go_wp2_with fail
  refine(bC2 g 0 maxI _ bK1 A l c _ h bK0 (by omega) hl hr).mono ?_;rintro e w1 ⟨rfl,a8,hg⟩;rw[List.drop_zero,he,Nat.zero_add] at a8;rw[List.drop_zero];have HE:=qZ he;clear he;go_wp2_with fail
  refine(aQ4 g _ 2 _ _ a8 (by omega)).mono ?_;rintro e w2 ⟨rfl,a9,b8⟩;go_wp2;go_ret
  exact⟨rfl,a9,aA4 hg b8 (.inl rfl)⟩
 rw[dD6 m l he hlt];go_enter Tryz.func204,Tryz.ntmps204
 go_wp2_with fail
 refine(bC2 g 0 maxI _ bK1 A l c _ h bK0 (by omega) hl hr).mono ?_;rintro e w1 ⟨rfl,a8,hg⟩;rw[List.drop_zero,he,Nat.zero_add] at a8;rw[List.drop_zero];have HE:=qZ he;clear he;have d8:decide (m<(cnt maxI l).1)=false:=by simpa using hlt
 go_wp2_with fail
 refine(bA2 g _ 2 _ _ a8).mono ?_;rintro e w2 ⟨rfl,rfl⟩;go_wp2;go_ret
 exact⟨rfl,a8,hg⟩
end
section
open Go.RowKit Oct
def aE8(l:List UInt8):List UInt8×Nat×Int:=
 if(lenOf 65535 l).2=0 then
  (if l.length-(cnt maxI l).2.1<(lenOf 65535 l).1 then([],0,3) else((l.drop (cnt maxI l).2.1).take (lenOf 65535 l).1,(cnt maxI l).2.1+(lenOf 65535 l).1,0))
 else([],0,(lenOf 65535 l).2)
theorem bV7(A:Option Addr)(l:List UInt8)(c:Nat)(w:World)(hr:Rd w w.heap.size A (cells l))(hl:l.length<=4611686018427387904)(he:(lenOf 65535 l).2≠0):
  Calls Tryz.prog 175 #[.slice A l.length c] w fun e w' =>e=.returned (.tuple #[.string (str (aE8 l).1),.int .i64 (aE8 l).2.1,.int .i64 (aE8 l).2.2])∧Below w.heap.size w w' :=by
 have a8:aE8 l=([],0,(lenOf 65535 l).2):=if_neg he;rw[a8];have HE:=qZ he;clear he a8;go_enter Tryz.func175,Tryz.ntmps175
 go_wp2_with fail
 refine(bD6 w.heap.size 65535 A l c _ (cB0 _ _) hl (hr.alloc (lR _) _) (by omega)).mono ?_;rintro e w1 ⟨rfl,a9,hg⟩;have hb:=aU5 hg;clear hg;obtain⟨h0,h1,h2,f0,f1⟩:=aH4 a9;go_wp2_with fail
 refine(dM6 _ _ _ _ _ _ _ a9 HE.out).mono ?_;rintro e w2 ⟨rfl,rfl⟩;go_wp2_with fail
 go_quiet (fail);go_wp2;go_ret3
 exact⟨rfl,aA3 hb _⟩
theorem bZ5(A:Option Addr)(l:List UInt8)(c:Nat)(w:World)(hr:Rd w w.heap.size A (cells l))(hl:l.length<=4611686018427387904)(he:(lenOf 65535 l).2=0)
  (d9:l.length-(cnt maxI l).2.1<(lenOf 65535 l).1):
  Calls Tryz.prog 175 #[.slice A l.length c] w fun e w' =>e=.returned (.tuple #[.string (str (aE8 l).1),.int .i64 (aE8 l).2.1,.int .i64 (aE8 l).2.2])∧Below w.heap.size w w' :=by
 have a8:aE8 l=([],0,3):=by unfold aE8;rw[if_pos he,if_pos d9]
 rw[a8];have HE:=qZ he;have hu:=bS4 maxI l;clear he a8;go_enter Tryz.func175,Tryz.ntmps175
 go_wp2_with fail
 refine(bD6 w.heap.size 65535 A l c _ (cB0 _ _) hl (hr.alloc (lR _) _) (by omega)).mono ?_;rintro e w1 ⟨rfl,a9,hg⟩;rw[HE.out] at a9;have hb:=aU5 hg;clear hg;go_wp2_with fail
 refine(dH6 _ _ _ _ _ _ a9 (by omega) (by omega) (by omega)).mono ?_;rintro e w2 ⟨rfl,b8,d8⟩;have f6:Below w.heap.size w w2:=hb.grown d8 hb.size (by simp);obtain⟨h0,h1,h2,f0,f1⟩:=aH4 b8;clear d8 hb a9;go_wp2_with fail
 go_quiet (fail);go_wp2;go_ret3
 exact⟨rfl,aA3 f6 _⟩
theorem cB8(A:Option Addr)(l:List UInt8)(c:Nat)(w:World)(hr:Rd w w.heap.size A (cells l))(i4:l.length<=c)(hl:l.length<=4611686018427387904∧c<=9223372036854775807)(he:(lenOf 65535 l).2=0)
  (f9:¬l.length-(cnt maxI l).2.1<(lenOf 65535 l).1):
  Calls Tryz.prog 175 #[.slice A l.length c] w fun e w' =>e=.returned (.tuple #[.string (str (aE8 l).1),.int .i64 (aE8 l).2.1,.int .i64 (aE8 l).2.2])∧Below w.heap.size w w' :=by
 have a8:aE8 l=((l.drop (cnt maxI l).2.1).take (lenOf 65535 l).1,(cnt maxI l).2.1+(lenOf 65535 l).1,0):=by unfold aE8;rw[if_pos he,if_neg f9]
 rw[a8];have HE:=qZ he;have hu:=bS4 maxI l;clear he a8;go_enter Tryz.func175,Tryz.ntmps175
 go_wp2_with fail
 refine(bD6 w.heap.size 65535 A l c _ (cB0 _ _) (by omega) (hr.alloc (lR _) _) (by omega)).mono ?_;rintro e w1 ⟨rfl,a9,hg⟩;rw[HE.out] at a9;have hb:=aU5 hg;clear hg;go_wp2_with fail
 refine(dL7 _ _ _ _ _ _ a9 (by omega) (by omega) (by omega) (by omega) (by omega) (by omega)).mono ?_;rintro e w2 ⟨rfl,b8,d9⟩;have f7:Below w.heap.size w w2:=hb.grown d9 hb.size (by simp);obtain⟨h0,h1,h2,f0,f1⟩:=aH4 b8;have d8:=hr.below f7;clear d9 hb a9;have hcut:=fun W:World=>aQ2 (P:=Tryz.prog) Tryz.underlying34 aC6 A l.length c (cnt maxI l).2.1 ((cnt maxI l).2.1+(lenOf 65535 l).1) (by omega) (by omega) (((cnt maxI l).2.1:Nat):Int) (((cnt maxI l).2.1:Int)+((lenOf 65535 l).1:Int)) rfl (by simp) W
 rw[Nat.add_sub_cancel_left] at hcut;have f6:Rd w2 w.heap.size (cutA A (cnt maxI l).2.1 c) (cells ((l.drop (cnt maxI l).2.1).take (lenOf 65535 l).1)):=by
  have:=(Rd.cutA d8 (k:=(cnt maxI l).2.1) (cap:=c) (by rw[aA1];omega) (by rw[aA1];omega)).take (lenOf 65535 l).1
  simpa[cells,List.map_take,List.map_drop] using this
 have f8:∀q,(convert 34 9 (.slice (cutA A (cnt maxI l).2.1 c) (lenOf 65535 l).1 (c-(cnt maxI l).2.1))).run Tryz.prog (w2.drewN q)=.ok (.string (str ((l.drop (cnt maxI l).2.1).take (lenOf 65535 l).1))) (w2.drewN q):=fun q=>by
  have:=aX6 (w:=w2.drewN q) (c-(cnt maxI l).2.1) (f6.drewN q);rw[show((l.drop (cnt maxI l).2.1).take (lenOf 65535 l).1).length=(lenOf 65535 l).1 by simp;omega] at this;exact this
 have g9:IntKind.i64.wrap (((cnt maxI l).2.1:Int)+((lenOf 65535 l).1:Int)-((lenOf 65535 l).1:Int))=((cnt maxI l).2.1:Int):=by rw[mH _ (by omega)];omega
 have g8:IntKind.i64.wrap (((cnt maxI l).2.1:Nat):Int)=((cnt maxI l).2.1:Int):=mH _ (by omega);clear d8 hr f6;go_wp2_with fail
 go_quiet (fail);go_wp2;go_ret3
 exact⟨rfl,aA3 f7 _⟩
theorem bV9(A:Option Addr)(l:List UInt8)(c:Nat)(w:World)(hr:Rd w w.heap.size A (cells l))(a8:l.length<=c)(hl:l.length<=4611686018427387904∧c<=9223372036854775807):
  Calls Tryz.prog 175 #[.slice A l.length c] w fun e w' =>e=.returned (.tuple #[.string (str (aE8 l).1),.int .i64 (aE8 l).2.1,.int .i64 (aE8 l).2.2])∧Below w.heap.size w w' :=by
 by_cases he:(lenOf 65535 l).2=0
 ·by_cases hlt:l.length-(cnt maxI l).2.1<(lenOf 65535 l).1
  ·exact bZ5 A l c w hr (by omega) he hlt
  exact cB8 A l c w hr a8 hl he hlt
 exact bV7 A l c w hr (by omega) he
end
section
open Go.RowKit Oct
theorem bB1:(Tryz.prog.info? 3).map (fun i=>(i.zero,i.size,i.bytes))=some (some (.int .i64 0),1,8):=by kernel_rfl
abbrev Is (w:World) (base:Nat) (v:Value) (z:List Int):Prop:=Own w base 3 v (z.map (Value.int .i64))
end
section
open Go.RowKit Oct
def cB1(w:World)(g:Nat)(l:List UInt8):Prop:=Blk w g 5 (cells l++[Value.int .u8 77]).toArray
theorem aQ8(l:List UInt8):∀u∈cells l,u.oneCell' =true:=by
 intro u hu;obtain⟨_,_,rfl⟩:=List.mem_map.1 hu
 rfl
end
section
open Go.RowKit Oct
theorem dG4(x:Nat)(h:x<18446744073709551616):x^^^18446744073709551615=18446744073709551615-x:=by
 have h1:(BitVec.ofNat 64 x^^^BitVec.allOnes 64).toNat=x^^^18446744073709551615:=by
  rw[BitVec.toNat_xor,BitVec.toNat_ofNat,BitVec.toNat_allOnes,Nat.mod_eq_of_lt (by omega)]
 rw[<-h1,BitVec.xor_allOnes,BitVec.toNat_not,BitVec.toNat_ofNat,Nat.mod_eq_of_lt (by omega)]
theorem cT1(n:Int)(h:-9223372036854775808<=n∧n<=9223372036854775807):
  bits .xor .u64 (IntKind.u64.wrap (IntKind.u64.wrap n*2)) (IntKind.u64.wrap (n/9223372036854775808))=((fold1 n:Nat):Int):=by
 have hw:∀x:Int,IntKind.u64.wrap x=x %18446744073709551616:=fun x=>by simp[IntKind.wrap,IntKind.bits,IntKind.signed]
 by_cases hn:0<=n
 ·obtain⟨k,rfl⟩:=Int.eq_ofNat_of_zero_le hn
  rw[hw,hw,hw,show((k:Int) %18446744073709551616*2) %18446744073709551616=((2*k:Nat):Int) by omega,show((k:Int)/9223372036854775808) %18446744073709551616=((0:Nat):Int) by omega,
   u64_xor_nat _ _ (by omega) (by omega),Nat.xor_zero,fold1,if_pos hn]
  simp
 obtain⟨k,hk⟩:∃k:Nat,n=-(k:Int)-1:=⟨(-(n+1)).toNat,by omega⟩
 subst hk;rw[hw,hw,hw,show((-(k:Int)-1) %18446744073709551616*2) %18446744073709551616=((18446744073709551614-2*k:Nat):Int) by omega,
  show((-(k:Int)-1)/9223372036854775808) %18446744073709551616=((18446744073709551615:Nat):Int) by omega,
  u64_xor_nat _ _ (by omega) (by omega),fold1,if_neg hn]
 have h2:(18446744073709551614-2*k)^^^18446744073709551615=2*k+1:=by
  rw[dG4 _ (by omega)];omega
 rw[h2]
 congr 1
 omega
theorem bU0(n:Int)(h:-9223372036854775808<=n∧n<=9223372036854775807):fold1 n<2^64:=by
 unfold fold1;split<;>omega
theorem cO9(n:Int)(h:-9223372036854775808<=n∧n<=9223372036854775807)(w:World):
  Calls Tryz.prog 158 #[.int .i64 n] w fun e w' =>e=.returned (.int .u64 (fold1 n:Nat))∧w=w' :=by
 have H:=qZ h;clear h;go_enter Tryz.func158,Tryz.ntmps158
 go_wp2;go_ret
 exact⟨cR9 (cT1 n H.out),rfl⟩
theorem dK4(n:Int)(h:-9223372036854775808<=n∧n<=9223372036854775807)(w:World):
  Calls Tryz.prog 119 #[.int .i64 n] w fun e w' =>∃v,e=.returned v∧Bs w' w.heap.size v (enc (fold1 n))∧Below w.heap.size w w' :=by
 have a9:=qZ (bU0 n h);have H:=qZ h;clear h;go_enter Tryz.func119,Tryz.ntmps119
 go_wp2_with fail
 refine(cO9 n H.out _).mono ?_;rintro e w1 ⟨rfl,rfl⟩;go_wp2_with fail
 refine(cC9 (.slice none 0 0) [] (fold1 n) w.heap.size w a9.out (by simp) (lR _) (Own.nil _ _ _)).mono ?_;rintro e w1 ⟨v,rfl,a8,hg,_⟩;have hb:=aH1 hg;clear hg;go_wp2;go_ret
 exact⟨v,rfl,a8,hb⟩
theorem cS9(s:ByteArray)(w:World)(h:65535<s.size)(h2:s.size<=9223372036854775807):
  Calls Tryz.prog 116 #[.string s] w fun e w' =>e=.returned (.tuple #[.slice none 0 0,.int .i64 2])∧w=w' :=by
 go_enter Tryz.func116,Tryz.ntmps116
 go_wp2;go_ret2
 exact⟨rfl,rfl⟩
theorem cE3(s:ByteArray):Lib.strCells s=cells s.data.toList:=rfl
theorem dJ9(s:ByteArray)(w:World)(h:s.size<=65535):
  Calls Tryz.prog 116 #[.string s] w fun e w' =>∃v,e=.returned (.tuple #[v,.int .i64 0])∧Bs w' w.heap.size v (enc s.size++s.data.toList)∧Below w.heap.size w w' :=by
 obtain⟨i0,hi,f6,f7,f9⟩:=info_parts aC6;go_enter Tryz.func116,Tryz.ntmps116
 go_wp2_with fail
 refine(cC9 (.slice none 0 0) [] s.size w.heap.size w (by omega) (by simp) (lR _) (Own.nil _ _ _)).mono ?_;rintro e w1 ⟨v,rfl,b8,hg,_⟩;have hb:=aH1 hg;clear hg;have g8:=aN8 s.size (by omega);have a9:w1.ownsRow w.heap.size 5 1 v (enc s.size).length (cells (enc s.size)):=by have:=b8;unfold Bs Own at this;rw[aA1] at this;exact this
 have f8:=hb.size;go_wp2_with (at_builtin;refine Lib.wpList_append_own_string _ rfl (.tmp 10) (.tmp 11) 34 9 rfl w.heap.size 5 i0 Tryz.underlying34 Tryz.underlying9 hi f6 f7 f9 v (enc s.size).length (cells (enc s.size)) rfl a9 s rfl (by unfold maxLen;omega) (by omega) (by omega) ?_)
 intro v' w2 a8 d9 _;have d8:Bs w2 w.heap.size v' (enc s.size++s.data.toList):=by
  unfold Bs Own;rw[aA1,lT,aE1];rw[cE3] at a8;exact a8
 have g9:Below w.heap.size w w2:=hb.grown d9 f8 (fun k hk=>(b8.lt k hk).1);clear a8 d9 b8 a9 hb;go_wp2;go_ret2
 exact⟨v',rfl,d8,g9⟩
end
section
open Go.RowKit Oct
theorem dE7(n:Nat):(n:Int) %128+128=((dA8 n).toNat:Int):=by
 unfold dA8;rw[aJ3 _ (by omega)];omega
theorem dE9(n:Nat):(n:Int) %128=((dK8 n).toNat:Int):=by
 unfold dK8;rw[aJ3 _ (by omega)];omega
theorem cM8(k:Nat):∀(n:Nat) (w:World),n<128^k->k<=10->n<2^64->∀M:Int,M=(n:Int)→
  Calls Tryz.prog 191 #[.int .u64 M] w fun e w' =>∃v,e=.returned v∧Bs w' w.heap.size v (bX1 n)∧Below w.heap.size w w' :=by
 induction k with
 |zero=>
  intro n w hn _ _ M hM;subst hM;obtain rfl:n=0:=by simpa using hn
  go_enter Tryz.func191,Tryz.ntmps191
  go_wp2_with fail
  go_ret
  rw[aR2];exact⟨_,rfl,Own.nil _ _ _,lS _ _⟩
 |succ k ih=>
  intro n w hn hk f7 M hM;subst hM;by_cases h0:n=0
  ·subst h0
   go_enter Tryz.func191,Tryz.ntmps191
   go_wp2_with fail
   go_ret
   rw[aR2];exact⟨_,rfl,Own.nil _ _ _,lS _ _⟩
  have h1:n/128<128^k:=by
   apply Nat.div_lt_of_lt_mul
   rw[Nat.pow_succ] at hn;omega
  have f8:=bH9 (n/128) k h1;have IH:=qZ (ih (n/128) w h1 (by omega) (by omega));have hd:=qZ (bH3 n h0);have g8:((n:Int)==0)=false:=by simp;omega
  have hq:IntKind.u64.wrap ((n:Int)/128)=(n:Int)/128:=IntWalk.u64_in _ (by omega);clear ih hn f7 h0 h1;go_enter Tryz.func191,Tryz.ntmps191
  go_wp2_with fail
  refine(IH.out _ (by omega)).mono ?_;rintro e w1 ⟨v,rfl,a9,hb⟩;have f6:=hb.size;clear IH;go_wp2_with (at_builtin;refine aO7 rfl (.tmp 7) (.tmp 12) 34 rfl w.heap.size 5 (.int .u8 0) 1 Tryz.underlying34 aC6 rfl _ _ _ _ (congrArg (Value.int .u8) (dE7 n)) rfl a9 rfl rfl (by rw[aA1];omega) (by rw[aA1];omega) (by omega) ?_)
  intro v' w2 a8 d8 d9;have b8:Bs w2 w.heap.size v' (bX1 n):=by rw[hd.out];unfold Bs;rw[aE1];exact a8
  have f9:Below w.heap.size w w2:=hb.grown d8 f6 (fun g hg=>(a9.lt g hg).1);clear a8 d8 d9 a9 hb;go_wp2;go_ret
  exact⟨v',rfl,b8,f9⟩
theorem cL5(n:Nat)(w:World)(hn:n<2^64):
  Calls Tryz.prog 162 #[.int .u64 n] w fun e w' =>∃v,e=.returned v∧Bs w' w.heap.size v (enc n)∧Below w.heap.size w w' :=by
 have f7:=bH9 (n/128) 9 (by omega);have IH:=qZ (cM8 9 (n/128) w (by omega) (by omega) (by omega));have hq:IntKind.u64.wrap ((n:Int)/128)=(n:Int)/128:=IntWalk.u64_in _ (by omega);clear hn;go_enter Tryz.func162,Tryz.ntmps162
 go_wp2_with fail
 refine(IH.out _ (by omega)).mono ?_;rintro e w1 ⟨v,rfl,a9,hb⟩;have f6:=hb.size;clear IH;go_wp2_with (at_builtin;refine aO7 rfl (.tmp 5) (.tmp 9) 34 rfl w.heap.size 5 (.int .u8 0) 1 Tryz.underlying34 aC6 rfl _ _ _ _ (congrArg (Value.int .u8) (dE9 n)) rfl a9 rfl rfl (by rw[aA1];omega) (by rw[aA1];omega) (by omega) ?_)
 intro v' w2 a8 d8 d9;have b8:Bs w2 w.heap.size v' (enc n):=by unfold Bs enc;rw[aE1];exact a8
 have f8:Below w.heap.size w w2:=hb.grown d8 f6 (fun g hg=>(a9.lt g hg).1);clear a8 d8 d9 a9 hb;go_wp2;go_ret
 exact⟨v',rfl,b8,f8⟩
theorem cR5(n:Nat)(w:World)(h:n<=9223372036854775807):
  Calls Tryz.prog 159 #[.int .i64 n] w fun e w' =>∃v,e=.returned (.tuple #[v,.int .i64 0])∧Bs w' w.heap.size v (enc n)∧Below w.heap.size w w' :=by
 go_enter Tryz.func159,Tryz.ntmps159
 go_wp2_with fail
 refine(cL5 n w (by omega)).mono ?_;rintro e w1 ⟨v,rfl,a8,hb⟩;go_wp2;go_ret2
 exact⟨v,rfl,a8,hb⟩
end
section
open Go.RowKit Oct
section
variable{m i k d c g:Nat}{x:UInt8}{l:List UInt8}{w:World}
theorem bC0(hh:Hid (cnt m l=tkc m (i==0) k i (l.drop i)))(hd:l.drop i=x::l.drop (i+1))(hb:bad m i k x=true):
  Ending.returned (.tuple #[.int .u64 0,.int .i64 0,.int .i64 4])=.returned (.tuple #[.int .u64 (aA2 m l).1,.int .i64 (aA2 m l).2.1,.int .i64 (aA2 m l).2.2])∧w=w:=by
 unfold aA2;rw[hh.out,hd,aW3,if_pos hb];exact⟨rfl,rfl⟩
theorem bA7(hh:Hid (cnt m l=tkc m (i==0) k i (l.drop i)))(hd:l.drop i=x::l.drop (i+1))(hb:bad m i k x=false)(hx:x.toNat<128):
  Ending.returned (.tuple #[.int .u64 ((k:Int)*128+(x.toNat:Int) %128),.int .i64 ((i:Int)+1),.int .i64 0])=.returned (.tuple #[.int .u64 (aA2 m l).1,.int .i64 (aA2 m l).2.1,.int .i64 (aA2 m l).2.2])∧w=w:=by
 unfold aA2;rw[hh.out,hd,aW3,if_neg (by rw[hb];exact Bool.false_ne_true),if_pos hx];exact⟨dN4 (by congr 1) rfl rfl,rfl⟩
theorem aT2(hh:Hid (cnt m l=tkc m (i==0) k i (l.drop i)))(hd:l.drop i=x::l.drop (i+1))(hb:bad m i k x=false)(hx:¬x.toNat<128)(a8:i<l.length):
  ∃i' k' :Nat,i' <=l.length∧Value.int .u64 ((k:Int)*128+(x.toNat:Int) %128)=.int .u64 k' ∧Value.int .i64 ((i:Int)+1)=.int .i64 i' ∧k' <=m∧Hid (cnt m l=tkc m (i' ==0) k' i' (l.drop i')):=by
 refine⟨i+1,k*128+x.toNat %128,by omega,by congr 1,rfl,dH3 hb,?_⟩;show cnt m l=_
 rw[hh.out,hd,aW3,if_neg (by rw[hb];exact Bool.false_ne_true),if_neg hx]
end
theorem bN4(m:Nat)(M:Int)(hM:M=(m:Int))(hm:m<2^64)(A:Option Addr)(l:List UInt8)(c B:Nat)(w:World)(hr:Rd w B A (cells l))(hl:l.length<=4611686018427387904):
  Calls Tryz.prog 164 #[.slice A l.length c,.int .u64 M] w fun e w' =>e=.returned (.tuple #[.int .u64 (aA2 m l).1,.int .i64 (aA2 m l).2.1,.int .i64 (aA2 m l).2.2])∧w=w' :=by
 subst hM;have Hm:=qZ hm;have hq:IntKind.u64.wrap ((m:Int)/128)=(m:Int)/128:=IntWalk.u64_in _ (by omega);clear hm;have d9:Hid (cnt m l=tkc m ((0:Nat)==0) 0 0 (l.drop 0)):=qZ rfl;go_enter Tryz.func164,Tryz.ntmps164
 go_wp2_with fail
 go_loop [7,8,9] (fun n j y=>∃i k:Nat,i<=l.length∧n=.int .u64 k∧j=.int .i64 i∧k<=m∧Hid (cnt m l=tkc m (i==0) k i (l.drop i))) (fun _ j _=>l.length-(intOf j).toNat)
 case atStart=>exact⟨0,0,by omega,rfl,rfl,by omega,d9⟩
 obtain⟨i,k,hi,rfl,rfl,hk,hh⟩:=hrel;by_cases hlt:i<l.length
 rotate_left
 ·have f9:l.drop i=[]:=List.drop_eq_nil_of_le (by omega)
  go_wp2;go_ret3
  unfold aA2;rw[hh.out,f9];exact⟨rfl,rfl⟩
 obtain⟨ad,rfl,g9,b8⟩:=aQ1 hr hlt;obtain⟨x,hx⟩:∃x,x=l[i]:=⟨_,rfl⟩
 have a8:l.drop i=x::l.drop (i+1):=by rw[hx];exact List.drop_eq_getElem_cons hlt
 rw[<-hx] at b8;have g8:=x.toNat_lt;clear hx;have HD:=qZ a8;rcases Nat.eq_zero_or_pos i with f7|f7
 ·subst f7
  have HI:Hid ((0:Nat)=0):=qZ rfl;have f8:w.cell? ad=some (.int .u8 (x.toNat:Int)):=b8;by_cases hx8:x.toNat=128
  ·have g3:((x.toNat:Int)==128)=true:=by simp;omega
   have HB:=qZ (dL8 m k rfl hx8);clear hx8;go_wp2;go_ret3
   exact bC0 hh a8 HB.out
  have g3:((x.toNat:Int)==128)=false:=by simp;omega
  have HX:=qZ hx8;clear hx8;rcases Nat.lt_trichotomy (m/128) k with a9|a9|a9
  ·have e1:¬((k:Int)<=(m:Int)/128):=by omega
   have e2:(m:Int)/128<k:=by omega
   have HB:=qZ (dD1 0 x a9);go_wp2;go_ret3
   exact bC0 hh a8 HB.out
  ·rcases Nat.lt_or_ge (m %128) (x.toNat %128) with d8|d8
   ·have e1:¬((x.toNat:Int) %128<=(m:Int) %128):=by omega
    have e2:(m:Int) %128<(x.toNat:Int) %128:=by omega
    have HB:=qZ (dG6 0 a9 d8);subst a9;go_wp2;go_ret3
    exact bC0 hh a8 HB.out
   have e1:(x.toNat:Int) %128<=(m:Int) %128:=by omega
   have e2:¬(m:Int) %128<(x.toNat:Int) %128:=by omega
   have HB:=qZ (bG3 (m:=m) (i:=0) (k:=k) (x:=x) (by have:=HI.out;have:=HX.out;omega) (by omega) (by intro _;exact d8));subst a9;have f6:m/128<=144115188075855871:=by have:=Hm.out;omega
   by_cases hx128:x.toNat<128
   ·go_wp2
    go_ret3
    exact bA7 hh a8 HB.out hx128
   go_wp2;go_round
   case rel=>exact aT2 hh a8 HB.out hx128 hlt
   case measure=>simp[intOf];omega
  have e1:((k:Int)<=(m:Int)/128):=by omega
  have e2:¬(m:Int)/128<k:=by omega
  have e3:¬((k:Int)=(m:Int)/128):=by omega
  have e4:((k:Int)==(m:Int)/128)=false:=by simp;omega
  have HB:=qZ (bG3 (m:=m) (i:=0) (k:=k) (x:=x) (by have:=HI.out;have:=HX.out;omega) (by omega) (by omega));have f6:k<=144115188075855871:=by have:=Hm.out;omega
  by_cases hx128:x.toNat<128
  ·go_wp2
   go_ret3
   exact bA7 hh a8 HB.out hx128
  go_wp2;go_round
  case rel=>exact aT2 hh a8 HB.out hx128 hlt
  case measure=>simp[intOf];omega
 have g1:((i:Int)==0)=false:=by simp;omega
 have HI:=qZ f7;have HX:=HI;rcases Nat.lt_trichotomy (m/128) k with a9|a9|a9
 ·have e1:¬((k:Int)<=(m:Int)/128):=by omega
  have e2:(m:Int)/128<k:=by omega
  have HB:=qZ (dD1 i x a9);go_wp2;go_ret3
  exact bC0 hh a8 HB.out
 ·rcases Nat.lt_or_ge (m %128) (x.toNat %128) with d8|d8
  ·have e1:¬((x.toNat:Int) %128<=(m:Int) %128):=by omega
   have e2:(m:Int) %128<(x.toNat:Int) %128:=by omega
   have HB:=qZ (dG6 i a9 d8);subst a9;go_wp2;go_ret3
   exact bC0 hh a8 HB.out
  have e1:(x.toNat:Int) %128<=(m:Int) %128:=by omega
  have e2:¬(m:Int) %128<(x.toNat:Int) %128:=by omega
  have HB:=qZ (bG3 (m:=m) (i:=i) (k:=k) (x:=x) (by have:=HI.out;have:=HX.out;omega) (by omega) (by intro _;exact d8));subst a9;have f6:m/128<=144115188075855871:=by have:=Hm.out;omega
  by_cases hx128:x.toNat<128
  ·go_wp2
   go_ret3
   exact bA7 hh a8 HB.out hx128
  go_wp2;go_round
  case rel=>exact aT2 hh a8 HB.out hx128 hlt
  case measure=>simp[intOf];omega
 have e1:((k:Int)<=(m:Int)/128):=by omega
 have e2:¬(m:Int)/128<k:=by omega
 have e3:¬((k:Int)=(m:Int)/128):=by omega
 have e4:((k:Int)==(m:Int)/128)=false:=by simp;omega
 have HB:=qZ (bG3 (m:=m) (i:=i) (k:=k) (x:=x) (by have:=HI.out;have:=HX.out;omega) (by omega) (by omega));have f6:k<=144115188075855871:=by have:=Hm.out;omega
 by_cases hx128:x.toNat<128
 ·go_wp2
  go_ret3
  exact bA7 hh a8 HB.out hx128
 go_wp2;go_round
 case rel=>exact aT2 hh a8 HB.out hx128 hlt
 case measure=>simp[intOf];omega
end
section
open Go.RowKit Oct
theorem aE2(l:List UInt8):∀u∈cells l,u.oneCell' =true:=by
 intro u hu;obtain⟨_,_,rfl⟩:=List.mem_map.1 hu
 rfl
theorem aK8(m:Nat)(l:List UInt8):(aA2 m l).1<=m:=cJ8 m l
theorem aF7(A:Option Addr)(l:List UInt8)(n c B:Nat)(hn:n=l.length)(w:World)(hr:Rd w B A (cells l))(hl:l.length<=4611686018427387904):
  Calls Tryz.prog 163 #[.slice A n c] w fun e w' =>e=.returned (.tuple #[.int .i64 (aA2 maxI l).1,.int .i64 (aA2 maxI l).2.1,.int .i64 (aA2 maxI l).2.2])∧w=w' :=by
 subst hn;have a8:(aA2 maxI l).1<=9223372036854775807:=aK8 maxI l;go_enter Tryz.func163,Tryz.ntmps163
 go_wp2_with fail
 refine(bN4 maxI _ bK1 bK0 A l c B _ hr hl).mono ?_;rintro e w1 ⟨rfl,rfl⟩;go_wp2;go_ret3
 exact⟨rfl,rfl⟩
theorem aN3(A:Option Addr)(l:List UInt8)(n c B:Nat)(hn:n=l.length)(w:World)(hr:Rd w B A (cells l))(hl:l.length<=4611686018427387904):
  Calls Tryz.prog 135 #[.slice A n c] w fun e w' =>e=.returned (.tuple #[.int .i64 (aC9 (aA2 maxU l).1),.int .i64 (aA2 maxU l).2.1,.int .i64 (aA2 maxU l).2.2])∧w=w' :=by
 subst hn;have a8:(aA2 maxU l).1<=18446744073709551615:=aK8 maxU l;obtain⟨u,hu⟩:∃u,u=(aA2 maxU l).1:=⟨_,rfl⟩
 have hq:IntKind.u64.wrap ((u:Int)/2)=(u:Int)/2:=IntWalk.u64_in _ (by rw[hu];omega);have hw:wrap64 ((u:Int)/2)=(u:Int)/2:=IntWalk.wrap64_in _ ⟨by omega,by rw[hu];omega⟩;have a9:u/2<=9223372036854775807:=by rw[hu];omega
 have HU:=qZ hu;clear a8 hu;by_cases h2:u %2=1
 ·have g1:((u:Int) %2==1)=true:=by simp;omega
  have hf:aC9 u=-((u/2:Nat):Int)-1:=by unfold aC9;rw[if_neg (by omega)]
  have HF:=qZ hf;clear h2 hf;go_enter Tryz.func135,Tryz.ntmps135
  go_wp2_with fail
  refine(bN4 maxU _ cD9 cE9 A l c B _ hr hl).mono ?_;rintro e w1 ⟨rfl,rfl⟩;rw[<-HU.out];go_wp2;go_ret3
  rw[<-HU.out,HF.out];exact⟨rfl,rfl⟩
 have g1:((u:Int) %2==1)=false:=by simp;omega
 have hf:aC9 u=((u/2:Nat):Int):=by unfold aC9;rw[if_pos (by omega)]
 have HF:=qZ hf;clear h2 hf;go_enter Tryz.func135,Tryz.ntmps135
 go_wp2_with fail
 refine(bN4 maxU _ cD9 cE9 A l c B _ hr hl).mono ?_;rintro e w1 ⟨rfl,rfl⟩;rw[<-HU.out];go_wp2;go_ret3
 rw[<-HU.out,HF.out];exact⟨rfl,rfl⟩
end
section
open Go.RowKit Oct
theorem aE5(m:Nat)(l:List UInt8):(aA2 m l).2.1<=l.length:=by
 unfold aA2;have:=bS4 m l;show(if(cnt m l).2.2=0 then(cnt m l).2.1 else 0)<=_
 split<;>omega
theorem aS9(m:Nat)(l:List UInt8):lenOf m l=if(aA2 maxI l).2.2=0 then(if m<(aA2 maxI l).1 then(0,2) else((aA2 maxI l).1,0)) else(0,(aA2 maxI l).2.2):=rfl
theorem cB6{l:List UInt8}(h:(aA2 maxI l).2.2≠0):aE8 l=([],0,(aA2 maxI l).2.2):=by
 have h1:lenOf 65535 l=(0,(aA2 maxI l).2.2):=by rw[aS9,if_neg h]
 unfold aE8;rw[h1,if_neg h]
theorem bP1{l:List UInt8}(h:(aA2 maxI l).2.2=0)(h2:65535<(aA2 maxI l).1):aE8 l=([],0,2):=by
 have h1:lenOf 65535 l=(0,2):=by rw[aS9,if_pos h,if_pos h2]
 unfold aE8;rw[h1]
 rfl
theorem bR7{m:Nat}{l:List UInt8}(h:(aA2 m l).2.2=0):(aA2 m l).2.1=(cnt m l).2.1:=if_pos h
theorem cA0{l:List UInt8}(h:(aA2 maxI l).2.2=0)(h2:¬65535<(aA2 maxI l).1)(h3:l.length-(aA2 maxI l).2.1<(aA2 maxI l).1):aE8 l=([],0,3):=by
 have h1:lenOf 65535 l=((aA2 maxI l).1,0):=by rw[aS9,if_pos h,if_neg h2]
 unfold aE8;rw[h1,if_pos rfl,<-bR7 h,if_pos h3]
theorem cG4{l:List UInt8}(h:(aA2 maxI l).2.2=0)(h2:¬65535<(aA2 maxI l).1)(h3:¬l.length-(aA2 maxI l).2.1<(aA2 maxI l).1):
  aE8 l=((l.drop (aA2 maxI l).2.1).take (aA2 maxI l).1,(aA2 maxI l).2.1+(aA2 maxI l).1,0):=by
 have h1:lenOf 65535 l=((aA2 maxI l).1,0):=by rw[aS9,if_pos h,if_neg h2]
 unfold aE8;rw[h1,if_pos rfl,<-bR7 h,if_neg h3]
end
section
open Go.RowKit Oct
def aH7(w:World)(base:Nat)(v:Value):Prop:=
 v=.slice none 0 0∨∃g n cap cur,v=.slice (some ⟨g,0,none⟩) n cap∧base<=g∧Blk w g 5 cur∧cap<=cur.size∧n<=cap∧cap<=9223372036854775807
def aT1(w:World)(v:Value)(x:Int):Prop:=
 v=.slice none 0 0∨∃g n cap rest,v=.slice (some ⟨g,0,none⟩) n cap∧Blk w g 5 (List.replicate cap (Value.int .u8 x)++rest).toArray∧n<=cap∧cap<=9223372036854775807
structure aT6(vs:List Value)(w w' :World):Prop where
 os:w'.os=w.os
 tape:w'.tape=w.tape
 output:w'.output=w.output
 size:w'.heap.size=w.heap.size
 block:∀k,(∀v∈vs,v.ownBlock≠some k)->w'.heap[k]? =w.heap[k]?
def dM5(vs:List Value):Prop:=∀i j (hi:i<vs.length) (hj:j<vs.length),i≠j->∀g,vs[i].ownBlock=some g->vs[j].ownBlock≠some g
theorem aT6.refl(vs:List Value)(w:World):aT6 vs w w:=⟨rfl,rfl,rfl,rfl,fun _ _=>rfl⟩
theorem aT6.drewN{vs:List Value}{w w' :World}(h:aT6 vs w w')(n:Nat):aT6 vs w (w'.drewN n):=⟨h.os,h.tape,h.output,h.size,h.block⟩
theorem aT6.set{vs:List Value}{w w' :World}(h:aT6 vs w w'){v:Value}(hv:v∈vs){g:Nat}(hg:v.ownBlock=some g)(i:Nat)(u:Value):aT6 vs w (w'.setCell ⟨g,i,none⟩ u):=
 ⟨h.os,h.tape,h.output,by simp[World.setCell,h.size],fun k hk=>(Below.heap_setCell _ _ _ _ (by rintro rfl;exact hk v hv hg)).trans (h.block k hk)⟩
theorem aT6.rd{vs:List Value}{w w' :World}(h:aT6 vs w w'){B:Nat}{A:Option Addr}{xs:List Value}(hr:Rd w B A xs)(hne:∀ad,A=some ad->∀v∈vs,v.ownBlock≠some ad.block):Rd w' B A xs:=fun hn=>by
 obtain⟨ad,rfl,hb,hc⟩:=hr hn;exact⟨ad,rfl,hb,fun j u hu=>(World.cell?_of_block (w:=w) (by rw[aC7];exact h.block _ (hne ad rfl))).trans (hc j u hu)⟩
theorem aT6.below{vs:List Value}{w w' :World}(h:aT6 vs w w'){base:Nat}(hb:∀v∈vs,∀k,v.ownBlock=some k->base<=k):Below base w w' :=
 ⟨h.os,h.tape,h.output,by rw[h.size];exact lR _,fun k hk=>h.block k fun v hv hg=>by have:=hb v hv k hg;omega⟩
theorem aH7.base{w:World}{base:Nat}{v:Value}(h:aH7 w base v):∀k,v.ownBlock=some k->base<=k:=by
 rintro k hk;rcases h with rfl|⟨g,n,cap,a8,rfl,hb,_⟩
 ·simp[Value.ownBlock] at hk
 simp[Value.ownBlock] at hk;omega
theorem aH7.of_full{w:World}{base:Nat}{v:Value}{x:Int}(h:aT1 w v x)(hb:∀k,v.ownBlock=some k->base<=k):aH7 w base v:=by
 rcases h with rfl|⟨g,n,cap,rest,rfl,a8,hn,hc⟩
 ·exact .inl rfl
 exact .inr ⟨g,n,cap,_,rfl,hb g rfl,a8,by simp,hn,hc⟩
theorem aH7.keep{w w' :World}{base:Nat}{v:Value}(h:aH7 w base v)(hk:∀g,v.ownBlock=some g->w'.heap[g]? =w.heap[g]?):aH7 w' base v:=by
 rcases h with rfl|⟨g,n,cap,a9,rfl,hb,a8,r⟩
 ·exact .inl rfl
 exact .inr ⟨g,n,cap,a9,rfl,hb,(hk g rfl).trans a8,r⟩
theorem aT1.keep{w w' :World}{v:Value}{x:Int}(h:aT1 w v x)(hk:∀g,v.ownBlock=some g->w'.heap[g]? =w.heap[g]?):aT1 w' v x:=by
 rcases h with rfl|⟨g,n,cap,rest,rfl,a8,r⟩
 ·exact .inl rfl
 exact .inr ⟨g,n,cap,rest,rfl,(hk g rfl).trans a8,r⟩
theorem aH7.of_own{w:World}{base:Nat}{v:Value}{l:List UInt8}(h:Bs w base v l):aH7 w base v:=by
 rcases Own.whole h with⟨rfl,_⟩|⟨g,cap,a9,rfl,hb,hg,a8,hn,hc,hs,_⟩
 ·exact .inl rfl
 exact .inr ⟨g,_,cap,a9,rfl,hb,a8,Nat.le_of_eq hs.symm,hn,by unfold maxLen at hc;omega⟩
def aL7(k:Nat):Int:=((k:Int)+1) %256
theorem cA4(cap q:Nat)(x:Value)(cur:List Value)(a8:cap<=cur.length)(hq:q<cap):
  (List.replicate q x++cur.drop q).toArray.setIfInBounds q x=(List.replicate (q+1) x++cur.drop (q+1)).toArray:=by
 have h:cur.drop q=cur[q]::cur.drop (q+1):=List.drop_eq_getElem_cons (by omega);rw[h,List.replicate_succ',List.append_assoc];simp only[List.setIfInBounds_toArray];rw[List.set_append,if_neg (by simp)];simp
 rw[h]
 rfl
theorem cB1.rd{w:World}{g:Nat}{l:List UInt8}(h:cB1 w g l):Rd w (g+1) (some ⟨g,0,none⟩) (cells l):=by
 intro _;refine⟨_,rfl,by simp,fun j u hu=>?_⟩;rw[show(⟨g,0,none⟩:Addr).add j=⟨g,j,none⟩ by simp[Addr.add_lit],Blk.cell h];have hj:j<(cells l).length:=(List.getElem?_eq_some_iff.1 hu).1;simp only[List.getElem?_toArray];rw[List.getElem?_append_left hj];exact hu
theorem cB1.below{w w' :World}{g B:Nat}{l:List UInt8}(h:cB1 w g l)(hb:Below B w w')(hg:g<B):cB1 w' g l:=Blk.below h hb hg
theorem Rd.lower{w:World}{B B' :Nat}{A:Option Addr}{xs:List Value}(h:Rd w B A xs)(hB:∀ad,A=some ad->ad.block<B'):Rd w B' A xs:=fun hn=>by
 obtain⟨ad,rfl,_,hc⟩:=h hn;exact⟨ad,rfl,hB ad rfl,hc⟩
theorem aH7.lt{w:World}{base:Nat}{v:Value}(h:aH7 w base v):∀g,v.ownBlock=some g->g<w.heap.size:=by
 rintro k hk;rcases h with rfl|⟨g,n,cap,a9,rfl,hb,a8,_⟩
 ·simp[Value.ownBlock] at hk
 simp[Value.ownBlock] at hk;rw[<-hk];exact a8.lt
theorem aH7.alloc{w:World}{base:Nat}{v:Value}(h:aH7 w base v)(o:Obj):aH7 (w.alloc o) base v:=
 h.keep fun g hg=>Below.heap_alloc w o g (h.lt g hg)
end
section
open Go.RowKit Oct
def dA7(w:World)(A:Option Addr)(cap:Nat)(cur:List Value):Prop:=cur.length=cap∧(0<cap->∃g,A=some ⟨g,0,none⟩∧Blk w g 3 cur.toArray)
theorem dA7.of_own{w:World}{base:Nat}{v:Value}{z:List Int}(h:Is w base v z):∃A cap a9,v=.slice A z.length cap∧cap<=9223372036854775807∧dA7 w A cap a9∧∀g,A=some ⟨g,0,none⟩->base<=g:=by
 rcases Own.whole h with⟨rfl,hz⟩|⟨g,cap,a9,rfl,hb,hg,a8,hn,hc,hs,_⟩
 ·have:z=[]:=by simpa using hz
  subst this;exact⟨none,0,[],rfl,by omega,⟨rfl,fun h=>absurd h (by omega)⟩,fun g h=>by cases h⟩
 rw[lU];refine⟨_,cap,a9.toList,rfl,by unfold maxLen at hc;omega,⟨by simpa using hs,fun _=>⟨g,rfl,by unfold Blk;simpa using a8⟩⟩,fun g' h=>?_⟩;injection h with h
 injection h with h
 omega
theorem dA7.set{w:World}{g cap q:Nat}{x:Value}{cur:List Value}(hb:Blk w g 3 (List.replicate q x++cur.drop q).toArray)(a8:cur.length=cap)(hq:q<cap):
  dA7 (w.setCell ⟨g,q,none⟩ x) (some ⟨g,0,none⟩) cap (List.replicate (q+1) x++cur.drop (q+1)):=by
 refine⟨by simp;omega,fun _=>⟨g,rfl,?_⟩⟩;rw[<-cA4 cap q x cur (Nat.le_of_eq a8.symm) hq];exact hb.set_ q x
theorem dA7.far{w:World}{A:Option Addr}{cap:Nat}{cur:List Value}(h:dA7 w A cap cur){g:Nat}(a8:A≠some ⟨g,0,none⟩)(q:Nat)(u:Value):dA7 (w.setCell ⟨g,q,none⟩ u) A cap cur:=by
 refine⟨h.1,fun h0=>?_⟩;obtain⟨g',rfl,hb⟩:=h.2 h0;exact⟨g',rfl,hb.far (by rintro rfl;exact a8 rfl) u⟩
theorem dA7.keep{w w' :World}{A:Option Addr}{cap:Nat}{cur:List Value}(h:dA7 w A cap cur)(hk:∀g,A=some ⟨g,0,none⟩->w'.heap[g]? =w.heap[g]?):dA7 w' A cap cur:=by
 refine⟨h.1,fun h0=>?_⟩;obtain⟨g',rfl,hb⟩:=h.2 h0;exact⟨g',rfl,(hk g' rfl).trans hb⟩
end
section
open Go.RowKit Oct
structure aJ7(vs:List Value)(w w' :World):Prop where
 os:w'.os=w.os
 tape:w'.tape=w.tape
 output:w'.output=w.output
 size:w'.heap.size=w.heap.size
 block:∀k,(∀v∈vs,v.ownBlock≠some k)->w'.heap[k]? =w.heap[k]?
 kind:∀k cur,Blk w k 5 cur->∃cur',Blk w' k 5 cur' ∧cur'.size=cur.size
theorem aJ7.refl(vs:List Value)(w:World):aJ7 vs w w:=⟨rfl,rfl,rfl,rfl,fun _ _=>rfl,fun k cur h=>⟨cur,h,rfl⟩⟩
theorem aJ7.drewN{vs:List Value}{w w' :World}(h:aJ7 vs w w')(n:Nat):aJ7 vs w (w'.drewN n):=⟨h.os,h.tape,h.output,h.size,h.block,h.kind⟩
theorem aJ7.set{vs:List Value}{w w' :World}(h:aJ7 vs w w'){v:Value}(hv:v∈vs){g:Nat}(hg:v.ownBlock=some g)(i:Nat)(u:Value):aJ7 vs w (w'.setCell ⟨g,i,none⟩ u):=
 ⟨h.os,h.tape,h.output,by simp[World.setCell,h.size],fun k hk=>(Below.heap_setCell _ _ _ _ (by rintro rfl;exact hk v hv hg)).trans (h.block k hk),fun k cur hc=>by
  obtain⟨c2,h1,h2⟩:=h.kind k cur hc;by_cases hkg:k=g
  ·subst hkg
   exact⟨_,h1.set_ i u,by simpa using h2⟩
  exact⟨c2,h1.far (p:=⟨g,i,none⟩) hkg u,h2⟩⟩
theorem aJ7.rd{vs:List Value}{w w' :World}(h:aJ7 vs w w'){B:Nat}{A:Option Addr}{xs:List Value}(hr:Rd w B A xs)(hne:∀ad,A=some ad->∀v∈vs,v.ownBlock≠some ad.block):Rd w' B A xs:=fun hn=>by
 obtain⟨ad,rfl,hb,hc⟩:=hr hn;exact⟨ad,rfl,hb,fun j u hu=>(World.cell?_of_block (w:=w) (by rw[aC7];exact h.block _ (hne ad rfl))).trans (hc j u hu)⟩
theorem aH7.kept{vs:List Value}{w w' :World}{base:Nat}{v:Value}(hk:aH7 w base v)(h:aJ7 vs w w'):aH7 w' base v:=by
 rcases hk with rfl|⟨g,n,cap,a9,rfl,hb,a8,h1,h2,h3⟩
 ·exact .inl rfl
 obtain⟨c2,k1,k2⟩:=h.kind g a9 a8;exact .inr ⟨g,n,cap,c2,rfl,hb,k1,by omega,h2,h3⟩
theorem cM5(A:Option Addr)(vs:List Value)(n c B base:Nat)(hn:n=vs.length)(w:World)(hr:Rd w B A vs)(m7:∀v∈vs,aH7 w base v)(m5:dM5 vs)(m6:∀ad,A=some ad->∀v∈vs,v.ownBlock≠some ad.block)
  (hl:vs.length<=4611686018427387904):
  Calls Tryz.prog 92 #[.slice A n c] w fun e w' =>e=.returned (.bool true)∧aJ7 vs w w' ∧∀v∈vs,aH7 w' base v:=by
 subst hn;have m3:=qZ m7;have n9:=qZ m5;have m8:=qZ m6;clear m7 m5 m6;go_enter Tryz.func92,Tryz.ntmps92
 go_wp2_with fail
 go_loopw [3,4,5] (fun i y1 y2 wr=>∃k:Nat,k<=vs.length∧i=.int .i64 k∧aJ7 vs w wr∧Hid (∀j (hj:j<vs.length),(j<k->aT1 wr vs[j] (aL7 j))∧(k<=j->aH7 wr base vs[j]))) (fun i _ _ _=>vs.length-(intOf i).toNat)
 case atStart=>exact⟨0,by omega,rfl,aJ7.refl _ _,qZ fun j hj=>⟨fun h=>absurd h (by omega),fun _=>m3.out _ (lX hj)⟩⟩
 obtain⟨k,hk,rfl,b8,a8⟩:=hrel;by_cases hlt:k<vs.length
 rotate_left
 ·obtain rfl:k=vs.length:=by omega
  have d8:∀j (hj:j<vs.length),aT1 wr vs[j] (aL7 j):=fun j hj=>(a8.out j hj).1 hj
  have HF:=qZ d8;clear a8 d8;go_wp2_with fail
  obtain⟨wo,f7⟩:∃wo:World,wo=wr:=⟨_,rfl⟩
  rw[<-f7] at HF b8⊢;clear f7;go_loopw [6,7,8] (fun i y1 y2 wr=>∃k:Nat,k<=vs.length∧i=.int .i64 k∧∃q,wr=wo.drewN q) (fun i _ _ _=>vs.length-(intOf i).toNat)
  case atStart=>exact⟨0,by omega,rfl,0,rfl⟩
  obtain⟨k,hk,rfl,q0,rfl⟩:=hrel;by_cases hlt:k<vs.length
  rotate_left
  ·go_wp2
   go_ret
   refine⟨rfl,b8.drewN _,fun v hv=>?_⟩;obtain⟨j,hj,rfl⟩:=List.getElem_of_mem hv;exact aH7.of_full (w:=wo) (HF.out j hj) (m3.out _ hv).base
  obtain⟨ad,rfl,n7,a9⟩:=(b8.rd hr m8.out).at_ hlt;have n5:(k:Int)<vs.length:=by omega
  rcases HF.out k hlt with hv|⟨g,n,cap,rest,hv,f6,m4,g9⟩
  ·rw[hv] at a9
   have HV:=qZ hv;clear hv;go_wp2_with fail
   go_quiet (fail);go_wp2_with fail
   refine wp_loop_rounds 1 ?_;rw[rounds_succ];go_wp2;go_roundw
   case rel=>exact⟨k+1,by omega,by go_num,_,rfl⟩
   case measure=>simp[intOf];omega
  rw[hv] at a9;have HV:=qZ hv;have HB:=qZ f6;clear hv f6;go_wp2_with fail
  go_quiet (fail);go_wp2_with fail
  go_loopw [8] (fun i wq=>∃q:Nat,q<=cap∧i=.int .i64 q∧∃Q,wq=wo.drewN Q) (fun i _=>cap-(intOf i).toNat)
  case atStart=>exact⟨0,by omega,rfl,q0+nq,by rw[World.drewN_drewN]⟩
  obtain⟨q,hq,rfl,Q,rfl⟩:=hrel;by_cases hqc:q<cap
  ·have l9:wo.cell? ⟨g,q,none⟩=some (.int .u8 (aL7 k)):=by
    rw[HB.out.cell];simp[List.getElem?_append,hqc]
   have l8:IntKind.u8.wrap ((k:Int)+1)=aL7 k:=by unfold aL7;simp[IntKind.wrap,IntKind.bits,IntKind.signed]
   have l4:((k:Int)+1) %256=aL7 k:=rfl;go_wp2;go_roundw
   case rel=>exact⟨q+1,by omega,by go_num,Q,rfl⟩
   case measure=>simp[intOf];omega
  go_wp2;go_roundw
  case rel=>exact⟨k+1,by omega,by go_num,_,rfl⟩
  case measure=>simp[intOf];omega
 obtain⟨ad,rfl,n7,a9⟩:=(b8.rd hr m8.out).at_ hlt;have n5:(k:Int)<vs.length:=by omega
 rcases(a8.out k hlt).2 (lR _) with hv|⟨g,n,cap,g8,hv,o4,f6,m2,m4,g9⟩
 ·have i4:Hid (∀j (hj:j<vs.length),(j<k+1->aT1 wr vs[j] (aL7 j))∧(k+1<=j->aH7 wr base vs[j])):=qZ fun j hj=>⟨fun h=>by
   by_cases hjk:j=k
   ·subst hjk;exact .inl hv
   exact(a8.out j hj).1 (by omega),fun h=>(a8.out j hj).2 (by omega)⟩
  rw[hv] at a9;have HV:=qZ hv;clear hv a8;go_wp2_with fail
  go_quiet (fail);go_wp2_with fail
  refine wp_loop_rounds 1 ?_;rw[rounds_succ];go_wp2;go_roundw
  case rel=>exact⟨k+1,by omega,by go_num,b8.drewN _,i4⟩
  case measure=>simp[intOf];omega
 have l6:=lX hlt;have m0:vs[k].ownBlock=some g:=by rw[hv];rfl
 rw[hv] at a9;have HV:=qZ hv;have HB:=qZ f6;have n4:=qZ m2;clear hv f6 m2;go_wp2_with fail
 go_quiet (fail);go_wp2_with fail
 obtain⟨wo,f7⟩:∃wo:World,wo=wr.drewN nq:=⟨_,rfl⟩
 rw[<-f7];have d9:aJ7 vs w wo:=by rw[f7];exact b8.drewN _
 have m9:Blk wo g 5 g8:=by rw[f7];exact HB.out
 have j6:Hid (∀j (hj:j<vs.length),(j<k->aT1 wo vs[j] (aL7 j))∧(k<=j->aH7 wo base vs[j])):=by rw[f7];exact a8
 have n6:wo.cell? (ad.add k)=some (.slice (some ⟨g,0,none⟩) n cap):=by rw[f7];exact a9
 clear b8 HB a8 a9 f7;go_loopw [5] (fun i wq=>∃q:Nat,q<=cap∧i=.int .i64 q∧aJ7 vs w wq∧Blk wq g 5 (List.replicate q (Value.int .u8 (aL7 k))++g8.toList.drop q).toArray∧wo.grownBy wq (some g)) (fun i _=>cap-(intOf i).toNat)
 case atStart=>exact⟨0,by omega,rfl,d9,by simpa using m9,World.grownBy.refl _ _⟩
 obtain⟨q,hq,rfl,ho,f8,i6⟩:=hrel;have l7:cap<=g8.toList.length:=by rw[Array.length_toList];exact n4.out
 by_cases hqc:q<cap
 ·have j9:=cA4 cap q (Value.int .u8 (aL7 k)) g8.toList l7 hqc
  have l9:∃u,wr.cell? ⟨g,q,none⟩=some u:=by
   rw[f8.cell];exact⟨_,Array.getElem?_eq_getElem (by have:=n4.out;simp;omega)⟩
  obtain⟨u,l9⟩:=l9;have o6:=f8.frozen q;have j8:Blk (wr.setCell ⟨g,q,none⟩ (.int .u8 (aL7 k))) g 5 (List.replicate (q+1) (Value.int .u8 (aL7 k))++g8.toList.drop (q+1)).toArray:=by rw[<-j9];exact f8.set_ q _
  have n8:=ho.set l6 m0 q (.int .u8 (aL7 k));have l5:=aA4 i6 (aA0 wr g q (.int .u8 (aL7 k))) (.inl rfl);have l8:IntKind.u8.wrap ((k:Int)+1)=aL7 k:=by unfold aL7;simp[IntKind.wrap,IntKind.bits,IntKind.signed]
  have l4:((k:Int)+1) %256=aL7 k:=rfl;have o5:=qZ j9;clear j9 f8 ho i6;go_wp2;go_roundw
  case rel=>exact⟨q+1,by omega,by go_num,n8,j8,l5⟩
  case measure=>simp[intOf];omega
 obtain rfl:q=cap:=by omega
 have d8:Hid (∀j (hj:j<vs.length),(j<k+1->aT1 wr vs[j] (aL7 j))∧(k+1<=j->aH7 wr base vs[j])):=qZ fun j hj=>by
  have f9:j≠k->∀x,vs[j].ownBlock=some x->wr.heap[x]? =wo.heap[x]? :=fun hjk x hx=>by
   by_cases hxs:x<wo.heap.size
   ·exact i6.block x hxs (by
     intro e;have:x=g:=by injection e
     subst this;exact n9.out j k hj hlt hjk x hx m0)
   have h1:wo.heap[x]? =none:=Array.getElem?_eq_none (by omega);have h2:wr.heap[x]? =none:=Array.getElem?_eq_none (by have:=ho.size;have:=d9.size;omega);rw[h1,h2]
  refine⟨fun h=>?_,fun h=>((j6.out j hj).2 (by omega)).keep (f9 (by omega))⟩;by_cases hjk:j=k
  ·subst hjk
   exact .inr ⟨g,n,q,_,HV.out,f8,m4,g9⟩
  exact((j6.out j hj).1 (by omega)).keep (f9 hjk)
 clear f8 i6 j6 d9 m9 n6;go_wp2;go_roundw
 case rel=>exact⟨k+1,by omega,by go_num,ho,d8⟩
 case measure=>simp[intOf];omega
end
end Go.Proofs.YtgeofijddhflaaaGreatDoor
