/- The writers of layer 1 and of its reference at every input, each in one statement. Condition: ints fit their kind, texts and rows take at most 2^47 bytes. -/
import Derived.Test.YtgeofijddhflaaaGreatDoorPRef
import Derived.Test.YtgeofijddhflaaaGreatDoorPOpen
set_option linter.unusedVariables false
set_option linter.unusedSimpArgs false
namespace Go.Proofs.YtgeofijddhflaaaGreatDoor
open Go.RowKit Oct
def nD(n:Int):List UInt8:=if n<0 then[] else enc n.toNat
def bX0(n:Int):Int:=if n<0 then 1 else 0
def nU(l:List UInt8):List UInt8:=if 65535<l.length then[] else enc l++l
def bX1(l:List UInt8):Int:=if 65535<l.length then 2 else 0
theorem bU5(n:Int)(h:n<=9223372036854775807)(w:World):
  Calls Tryz.prog 115 #[n] w fun e b =>∃v,e=.returned (.tuple #[v,.int .i64 (bX0 n)])∧Bs b w v (nD n)∧Below w w b :=by
 unfold nD bX0;by_cases a:n<0;rw[if_pos a,if_pos a];refine(bU4 n w a).mono ?_;rintro e b ⟨rfl,rfl⟩;exact⟨_,rfl,Own.nil _ _ _,lS _ _⟩;rw[if_neg a,if_neg a];exact cA1 n.toNat n O w O
theorem bK2(n:Int)(h:n<=9223372036854775807)(w:World):
  Calls Tryz.prog 159 #[n] w fun e b =>∃v,e=.returned (.tuple #[v,.int .i64 (bX0 n)])∧Bs b w v (nD n)∧Below w w b :=by
 unfold nD bX0;by_cases a:n<0;rw[if_pos a,if_pos a];refine(bK1 n w a).mono ?_;rintro e b ⟨rfl,rfl⟩;exact⟨_,rfl,Own.nil _ _ _,lS _ _⟩;rw[if_neg a,if_neg a];obtain⟨k,rfl⟩:=Int.eq_ofNat_of_zero_le (by omega:0<=n);rw[Int.toNat_natCast];exact aG7 k w O
theorem bU1(s:ByteArray)(h:s.size<=140737488351232)(w:World):
  Calls Tryz.prog 116 #[.string s] w fun e b =>∃v,e=.returned (.tuple #[v,.int .i64 (bX1 s.data.toList)])∧Bs b w v (nU s.data.toList)∧Below w w b :=by
 have c:s.data.toList=s.size:=by simp
 unfold nU bX1;rw[c];by_cases a:65535<s.size;rw[if_pos a,if_pos a];refine(bL0 s w a O).mono ?_;rintro e b ⟨rfl,rfl⟩;exact⟨_,rfl,Own.nil _ _ _,lS _ _⟩;rw[if_neg a,if_neg a];exact bZ9 s w O
theorem bK0(s:ByteArray)(h:s.size<=140737488351232)(w:World):
  Calls Tryz.prog 160 #[.string s] w fun e b =>∃v,e=.returned (.tuple #[v,.int .i64 (bX1 s.data.toList)])∧Bs b w v (nU s.data.toList)∧Below w w b :=by
 have c:s.data.toList=s.size:=by simp
 unfold nU bX1;rw[c];by_cases a:65535<s.size;rw[if_pos a,if_pos a];refine(aZ8 s w a O).mono ?_;rintro e b ⟨rfl,rfl⟩;exact⟨_,rfl,Own.nil _ _ _,lS _ _⟩;rw[if_neg a,if_neg a];exact bS8 s w O
theorem nN(w:World)(base:Nat)(e:TypeId)(a:base<=w):Own (w.alloc (.cells #[] e)) base e (.slice (w,0) 0 0) []:=World.ownsRow_made w #[] 0 a (by simp[maxLen]) σ
section
variable{P:Program}{W w:World}{ops:Array Oper}{rest:List Oper}{o:Oper}{a:Act}{Q:Exit->Act->World->Prop}
theorem xG(n:o.guard=none)(s x:Operand)(t:TypeId)
  (B:o.op=.call {callee:=.builtin .append,args:=#[s,x],argTypes:=#[t,t]})
  (e:TypeId) (z:Value) (d:Nat) (E:P.underlying t=some (.slice e)) (l:(P.info? e).map (fun i=>(i.zero,i.size,i.bytes))=some (some z,1,d)) (p:z.cells.size=1)
  (D:a.eval s=.slice (W,0) 0 0)
  (A:Option Addr) (m c:Nat) (b:List Value) (hx:a.eval x=.slice A m c) (y:m=b) (C:Rd W W A b) (q:∀u∈b,u.oneCell' =true)
  (F:m<=9223372036854775807) (a8:m*d<=140737488355328)
  (h:∀g f,Own f W e g b->Below W W f ->wpList P ops Q rest (a.put o.dst g) f):wpList P ops Q (o::rest) a (W.alloc (.cells #[] e)):=by
 have j:=nN W W e (lR _);refine aP n s x t B W.heap.size e z d E l p _ [] D j W.heap.size A m c b hx y (C.alloc (lR _) _) q (by unfold maxLen;simp;omega) (by simpa using a8) σ fun g f r v G=>?_
 exact h g f (by simpa using r) (((lS _ W).alloc (lR _) _).grown v σ fun k w=>(j.lt k w).1)
theorem nS(y:o.guard=none)(s x:Operand)(t:TypeId)
  (K:o.op=.call {callee:=.builtin .append,args:=#[s,x],argTypes:=#[t,t]})
  (e:TypeId) (z:Value) (d:Nat) (N:P.underlying t=some (.slice e)) (j:(P.info? e).map (fun i=>(i.zero,i.size,i.bytes))=some (some z,1,d)) (C:z.cells.size=1)
  (v:Value) (p:List Value) (M:a.eval s=v) (base:Nat) (r:Below base W w) (l:base<=W) (g:Own w base e v p)
  (B:Nat) (A:Option Addr) (m c:Nat) (b:List Value) (hx:a.eval x=.slice A m c) (I:m=b) (L:Rd w B A b) (D:∀u∈b,u.oneCell' =true)
  (G:p+m<=9223372036854775807) (f:(p+m)*d<=140737488355328)
  (h:∀q n,Own n base e q (p++b)->Below base W n ->wpList P ops Q rest (a.put o.dst q) n):wpList P ops Q (o::rest) a w:=
 aP y s x t K base e z d N j C v p M g B A m c b hx I L D (by unfold maxLen;omega) f (mM l r.size) fun q n E F R=>
  h q n E (r.grown F (mM l r.size) fun k H=>(g.lt k H).1)
end
theorem aX1{m:Nat}{l:List UInt8}(h:(lenOf m l).2=0):(cnt maxI l).2.2=0∧(lenOf m l).1=(cnt maxI l).1∧(cnt maxI l).1<=m:=by
 unfold lenOf at h⊢;by_cases a:(cnt maxI l).2.2=0;rw[if_pos a] at h⊢;by_cases b:m<(cnt maxI l).1;rw[if_pos b] at h;cases h;rw[if_neg b];exact⟨a,rfl,O⟩;rw[if_neg a] at h;exact absurd h a
theorem bB1{l:List UInt8}(h:(cJ l).2.2=0):(cJ l).2.1<=l.length∧l.take (cJ l).2.1=enc (cJ l).1.length++(cJ l).1∧(cJ l).1.length<=65535:=by
 unfold cJ at h⊢;by_cases a:(lenOf 65535 l).2=0;rw[if_pos a] at h⊢;by_cases c:l.length-(cnt maxI l).2.1<(lenOf 65535 l).1;rw[if_pos c] at h;cases h;rw[if_neg c];obtain⟨f,b,j⟩:=aX1 a;obtain⟨g,i,e⟩:=aM8 f;show(cnt maxI l).2.1+(lenOf 65535 l).1<=l.length∧l.take ((cnt maxI l).2.1+(lenOf 65535 l).1)=enc ((l.drop (cnt maxI l).2.1).take (lenOf 65535 l).1).length++(l.drop (cnt maxI l).2.1).take (lenOf 65535 l).1∧((l.drop (cnt maxI l).2.1).take (lenOf 65535 l).1).length<=65535
 have d:((l.drop (cnt maxI l).2.1).take (lenOf 65535 l).1).length=(lenOf 65535 l).1:=by simp;omega
 rw[d,b,<-e,b.symm];refine⟨O,?_,O⟩;rw[List.take_add];rw[if_neg a] at h;exact absurd h a
end Go.Proofs.YtgeofijddhflaaaGreatDoor
