/- slices.Chunk(b, 400): the closure's contract. Condition: the slice's box and the number's are kept by each round. -/
import Derived.Test.YtgeofijddhflaaaGreatDoorPSealL
import Derived.RangeFuncBound
import Derived.Handy
set_option linter.unusedVariables false
set_option linter.unusedSimpArgs false
namespace Go.Proofs.YtgeofijddhflaaaGreatDoor
section
open Go.RowKit Go.Shelf Oct
attribute [local go_sem] Oper.semAt_some
theorem cA7{P:Program}{T e:TypeId}{z:Value}{a:Nat}(c:P.underlying T=some (.slice e))(a8:(P.info? e).map (fun i=>(i.zero,i.size,i.bytes))=some (some z,1,a))(A:Option Addr)(b cap lo hi:Nat)(l:lo<=hi)(m:hi<=cap)(X Y:Int)(g:X=(lo:Int))(h:Y=(hi:Int))(w:World):
  (Instr.slice T (.slice A b cap) (some (.int .i64 X)) (some (.int .i64 Y)) (some (.int .i64 Y))).run P w=.ok (.slice (cutA A lo hi) (hi-lo) (hi-lo)) w:=by
 obtain⟨i,f,n,d,k⟩:=info_parts a8;subst g;subst h;rw[run_slice_lhm w T A b cap (by rw[c];simp[Program.elem,c]) .i64 .i64 .i64 lo hi hi O O O O];have j:P.elem T=e:=by simp[Program.elem,c]
 rw[j,mZ f d];simp[sliced,Go.Proofs.YtgeofijddhflaaaGreatDoor.cutA,Result.andThen]
end
section
open Go.RowKit Oct
theorem eM{P:Program}{w:World}{o:Oper}{a:Act}{K:Act->World->Prop}{Q:Exit->Act->World->Prop}(s x:Operand)(t:TypeId)
  (L:o.op=.call {callee:=.builtin .append,args:=#[s,x],argTypes:=#[t,t]})
  (base:Nat) (e:TypeId) (z:Value) (b f:Nat) (N:P.underlying t=some (.slice e)) (y:(P.info? e).map (fun i=>(i.zero,i.size,i.bytes))=some (some z,b,f)) (V:z.cells.size=b) (U:0<b)
  (v:Value) (n:Nat) (q:List Value) (M:a.eval s=v) (C:w.ownsRow base e b v n q)
  (p:Addr) (m c:Nat) (d:List Value) (hx:a.eval x=.slice (some p) m c) (I:d=m*b) (A:∀j u,d[j]? =some u->w.cell? (p.add j)=some u) (E:∀u∈d,u.oneCell' =true)
  (S:n+m<=maxLen) (a8:(n+m)*f<=140737488355328) (r:base<=w)
  (h:∀k l,l.ownsRow base e b k (n+m) (q++d)->w.grownBy l v.ownBlock->jD k v.ownBlock w->K (a.put o.dst k) l):o.wp P a w K Q:=by
 obtain⟨i,H,R,B,T⟩:=info_parts y;obtain⟨k,l,D,F,G,_,g⟩:=run_append_own_at (P:=P) w base t o.type e i z b f N H R B T V U v n q C p m c d I A E S a8 r;unfold Oper.wp execOp;simp only[L,resolve,invoke,builtin,Sem.run_bind,Sem.run_pure,Result.andThen_ok,List.map_toArray,mG,List.map_nil,M,hx,D];refine h k l F G ?_;rcases g with g|g
 exact .inl g;exact .inr ⟨_,g,lR _⟩
end
section
open Go.RowKit Oct
theorem cT{w:World}{base:Nat}{e:TypeId}{a:Nat}{v:Value}{n:Nat}{c:List Value}(h:w.ownsRow base e a v n c){g:Nat}(b:v.ownBlock=some g):∃cs,w.heap[g]? =some (.cells cs e (0,0)):=by
 rcases h.2 with⟨rfl,_⟩|⟨g',cap,a8,rfl,_,hb,_⟩
 cases b;simp[Value.ownBlock] at b;subst b;exact⟨_,hb⟩
end
end Go.Proofs.YtgeofijddhflaaaGreatDoor
