/- A map from names to pointers, of a call's own, as a row of pairs by rising names. No condition. -/
import Derived.Test.YtgeofijddhflaaaGreatDoorPHeldS
import Derived.Maps.Ext
import Derived.Maps.RangeWalk
import Derived.Sort.KeysCollected
set_option linter.unusedVariables false
set_option linter.unusedSimpArgs false
namespace Go.Proofs.YtgeofijddhflaaaGreatDoor
open Go.RowKit Go.Maps Go.Sort
abbrev Nm:=List UInt8
section
variable{α β:Type}
def asIns(x:Nm×α):List (Nm×α)->List (Nm×α)
 |[]=>[x]
 |y::r=>if bytesBefore x.1 y.1=true then x::y::r else y::asIns x r
def bE(n:Nm)(l:List (Nm×α)):List (Nm×α):=l.filter fun p=> !(p.1==n)
def aW(n:Nm)(a:α)(l:List (Nm×α)):List (Nm×α):=asIns (n,a) (bE n l)
def aX(n:Nm)(l:List (Nm×α)):Option α:=(l.find? fun p=>p.1==n).map (·.2)
abbrev bI (f:α->β) (l:List (Nm×α)):List (Nm×β):=l.map fun p=>(p.1,f p.2)
theorem aD8(f:α->β)(x:Nm×α):∀l,bI f (asIns x l)=asIns (x.1,f x.2) (bI f l)
 |[]=>rfl
 |y::r=>by
  unfold asIns;by_cases h:bytesBefore x.1 y.1=true;rw[if_pos h];simp only[mG];rw[if_pos h];rw[if_neg h];simp only[mG];rw[if_neg h];exact congrArg _ (aD8 f x r)
theorem jF(f:α->β)(n:Nm)(l:List (Nm×α)):bI f (bE n l)=bE n (bI f l):=by
 unfold bE bI;rw[List.filter_map];rfl
theorem fB(f:α->β)(n:Nm)(a:α)(l:List (Nm×α)):bI f (aW n a l)=aW n (f a) (bI f l):=by
 unfold aW;rw[aD8,jF]
theorem fA(f:α->β)(n:Nm)(l:List (Nm×α)):aX n (bI f l)=(aX n l).map f:=by
 unfold aX bI;rw[List.find?_map,Option.map_map,Option.map_map];rfl
theorem asIns_mem{x:Nm×α}{l:List (Nm×α)}{p:Nm×α}:p∈asIns x l↔p=x∨p∈l:=by
 induction l with
 |nil=>simp[asIns]
 |cons y r ih=>
  unfold asIns;split;simp;simp only[List.mem_cons,ih];constructor
  ·rintro(h|h|h)<;>simp[h]
  rintro(h|h|h)<;>simp[h]
theorem eQ{n:Nm}{l:List (Nm×α)}{p:Nm×α}:p∈bE n l↔p∈l∧p.1≠n:=by
 unfold bE;simp
theorem asPut_mem{n:Nm}{a:α}{l:List (Nm×α)}{p:Nm×α}:p∈aW n a l↔p=(n,a)∨(p∈l∧p.1≠n):=by
 unfold aW;rw[asIns_mem,eQ]
theorem iN(x:Nm×α):∀l,(asIns x l).length=l+1
 |[]=>rfl
 |y::r=>by
  unfold asIns;split;rfl;simp[iN x r]
theorem bY{n:Nm}{l:List (Nm×α)}{a:α}(h:aX n l=some a):(n,a)∈l:=by
 unfold aX at h;rw[Option.map_eq_some_iff] at h;obtain⟨p,c,rfl⟩:=h;have d:=List.mem_of_find?_eq_some c;have b:=List.find?_some c;simp only[beq_iff_eq] at b;rw[<-b];exact d
theorem aM7:∀{a b:Nm},bytesBefore a b=true->a<=b
 |[],_,_=>List.nil_le _
 |_::_,[],h=>by simp[bytesBefore] at h
 |x::a,y::b,h=>by
  simp only[bytesBefore,Bool.or_eq_true,decide_eq_true_eq,Bool.and_eq_true,beq_iff_eq] at h;rw[List.cons_le_cons_iff];rcases h with h|⟨rfl,h⟩
  exact .inl h;exact .inr ⟨rfl,aM7 h⟩
def gJ(l:List (Nm×α)):Prop:=l.Pairwise fun p q=>bytesBefore p.1 q.1=true
end
theorem aL3{l:List (Nm×Nat)}(a:l.Pairwise fun p q=>bytesBefore p.1 q.1=true){ss:List Nm}(h:ss.Perm (l.map (·.1))):ss.mergeSort (fun x y=>decide (x<=y))=l.map (·.1):=by
 rw[mergeSort_of_perm h];refine List.mergeSort_of_pairwise ?_;rw[List.pairwise_map];exact a.imp fun h=>decide_eq_true (aM7 h)
def zO(v:Value):Option (DataW Unit×List MemPlace):=
 match v with
 | .pointer none=>some (.nil,[])
 | .pointer (some ⟨g,0,none⟩)=>some (.lit (.int .i64 g),[])
 |_=>none
def bY6:Option Nat->Value
 |none=>.pointer none
 |some g=>.pointer (some ⟨g,0,none⟩)
theorem bS0(o:Option Nat):zO (bY6 o)=some (match o with|none=>.nil|some g=>.lit (.int .i64 g),[]):=by
 cases o<;>rfl
theorem aP2{v:Value}{y:DataW Unit×List MemPlace}(h:zO v=some y):∃o,v=bY6 o:=by
 unfold zO at h;split at h;exact⟨none,rfl⟩;rename_i g;exact⟨some g,rfl⟩;cases h
def aC4(p:Nm×Nat):Lit×DataW Unit:=(.string p.1,.lit (.int .i64 p.2))
def mU(l:List (Nm×Nat)):DataW Unit:=.map (l.map aC4)
theorem aN4(x:Nm×Nat):∀l:List (Nm×Nat),(asIns x l).map aC4=DataW.insert (aC4 x) (l.map aC4)
 |[]=>rfl
 |y::r=>by
  unfold asIns;simp only[mG,DataW.insert];have e:(aC4 x).1.before (aC4 y).1=bytesBefore x.1 y.1:=rfl;rw[e];by_cases h:bytesBefore x.1 y.1=true;rw[if_pos h,if_pos h];rfl;rw[if_neg h,if_neg h,mG,aN4 x r]
theorem vU(n:Nm)(l:List (Nm×Nat)):(bE n l).map aC4=(l.map aC4).filter (ChangeMaps.notKey (.string n)):=by
 unfold bE;rw[List.filter_map];rfl
theorem bO0(n:Nm)(g:Nat)(l:List (Nm×Nat)):(mU l).put (.string n) (.lit (.int .i64 g))=mU (aW n g l):=by
 unfold mU;rw[DataW.put_eq];unfold aW ChangeMaps.putKey;rw[aN4,vU];rfl
theorem bN8(n:Nm)(l:List (Nm×Nat)):(mU l).del (.string n)=mU (bE n l):=by
 unfold mU;rw[DataW.del_eq];unfold ChangeMaps.delKey;rw[vU]
theorem bC1(n:Nm)(l:List (Nm×Nat))(z:DataW Unit):(mU l).atKey (.string n) z=match aX n l with|some g=>.lit (.int .i64 g)|none=>z:=by
 unfold mU aX DataW.atKey;simp only;rw[List.find?_map];have e:((fun p:Lit×DataW Unit=>p.1.sameKey (.string n))∘aC4)=fun p:Nm×Nat=>p.1==n:=rfl
 rw[e];cases l.find? (fun p=>p.1==n)<;>rfl
theorem bN9(n:Nm)(l:List (Nm×Nat)):Maps.has (mU l) (.string n)=(aX n l).isSome:=by
 unfold mU aX;rw[Maps.has_eq,List.any_map];have e:((fun p:Lit×DataW Unit=>p.1.sameKey (.string n))∘aC4)=fun p:Nm×Nat=>p.1==n:=rfl
 rw[e,Option.isSome_map,<-List.isSome_find?]
theorem oE(l:List (Nm×Nat)):Maps.size (mU l)=l.length:=by
 unfold mU;rw[Maps.size_eq,lU]
section
variable{P:Program}{k t e:TypeId}{w w' :World}{m:Nat}{l:List (Nm×Nat)}
def dA(P:Program)(k:TypeId)(w:World)(m:Nat)(l:List (Nm×Nat)):Prop:=w.ownsMap P k zO m l (mU l)
theorem dA.of_owns{n:Nat}(h:w.ownsMap P k zO m n (mU l)):dA P k w m l:=by
 obtain⟨a,d,e,F,g,c⟩:=h;refine⟨a,d,e,F,?_,c⟩;have b:=oE l;rw[c] at b;have f:=length_read (P:=P) (k:=k) (R0:=zO) a;rw[Maps.size_eq] at b;omega
theorem dA.made(P:Program)(k:TypeId)(w:World):dA P k (w.alloc (.map #[] 0)) w []:=World.ownsMap_made w P k zO
theorem dA.lt(h:dA P k w m l):m<w:=World.ownsMap.lt h
theorem dA.b1(h:dA P k w m l)(e:w'.heap[m]? =w.heap[m]?):dA P k w' m l:=by
 obtain⟨c,a,b,F,f,d⟩:=h;exact⟨c,a,e.trans b,F,f,d⟩
theorem dA.rising(h:dA P k w m l)(K:Keyed P k):gJ l:=by
 obtain⟨c,a,b,_⟩:=World.ownsMap.canon h K;unfold mU at a;injection a with a
 rw[<-a,List.pairwise_map] at b;exact b
theorem dA.get(h:dA P k w m l)(b:P.underlying k=some .string)(f:P.underlying t=some (.map k e))(g:(zeroValue e).run P w=.ok (.pointer none) w)(s:ByteArray)(d:s.size<=maxLen):
  (Instr.lookup t (.map (some m)) (.string s) false).run P w=.ok (bY6 (aX s.data.toList l)) w:=by
 obtain⟨v,i,c,a⟩:=World.ownsMap.lookup h (string_keyed b) f g (zd:=.nil) (zp:=[]) rfl (WideMaps.keyOf_string_mk b d);rw[bC1] at a;obtain⟨o,rfl⟩:=aP2 a;rw[bS0] at a;rw[c];have:o=aX s.data.toList l:=by
  cases h1:aX s.data.toList l<;>rw[h1] at a<;>cases o<;>simp at a⊢
  have:=a.1;omega
 rw[this]
theorem dA.put(h:dA P k w m l)(b:P.underlying k=some .string)(n:P.underlying t=some (.map k e))(i:l<maxLen)(s:ByteArray)(j:s.size<=maxLen)(g:Nat):
  ∃w',(Instr.mapUpdate t (.map (some m)) (.string s) (.pointer (g,0))).run P w=.ok () w' ∧dA P k w' m (aW s.data.toList g l)∧w.grownBy w' (some m):=by
 obtain⟨w',c,a,f⟩:=World.ownsMap.update h (string_keyed b) n i (WideMaps.keyOf_string_mk b j) (val:=.pointer (g,0)) (d:=.lit (.int .i64 g)) (ps:=[]) rfl;rw[bO0] at a;exact⟨w',c,dA.of_owns a,f⟩
theorem dA.del(h:dA P k w m l)(b:P.underlying k=some .string)(i:P.underlying t=some (.map k e))(s:ByteArray)(g:s.size<=maxLen)(c:TypeId):
  ∃w',(Builtin.delete_ #[t,k] c #[.map (some m),.string s]).run P w=.ok (.tuple #[]) w' ∧dA P k w' m (bE s.data.toList l)∧w.grownBy w' (some m):=by
 obtain⟨w',d,a,f⟩:=World.ownsMap.drop h (string_keyed b) i (WideMaps.keyOf_string_mk b g) c;rw[bN8] at a;exact⟨w',d,dA.of_owns a,f.grown⟩
variable{ops:Array Oper}{rest:List Oper}{o:Oper}{a:Act}{Q:Exit->Act->World->Prop}
theorem aB9{K:Act->World->Prop}(b d c:Operand)(t:TypeId)(i:o.op=Op.mapUpdate t b d c)(n:P.underlying k=some .string)(u:P.underlying t=some (.map k e))(h:dA P k w m l)(q:l<maxLen)(s:ByteArray)(r:s.size<=maxLen)(g:Nat)
  (p:a.eval b=.map (some m)) (hx:a.eval d=.string s) (v:a.eval c=.pointer (g,0)) (j:∀w',dA P k w' m (aW s.data.toList g l)->w.grownBy w' (some m)->K (a.put o.dst undef) w'):o.wp P a w K Q:=by
 obtain⟨w',f,x,y⟩:=h.put n u q s r g;unfold Oper.wp;simp[execOp,i,p,hx,v,f,Result.andThen];exact j w' x y
theorem aB7(q:o.guard=none)(d i f:Operand)(t:TypeId)(c:o.op=Op.mapUpdate t d i f)(r:P.underlying k=some .string)(y:P.underlying t=some (.map k e))(h:dA P k w m l)(v:l.length<maxLen)(s:ByteArray)(x:s.size<=maxLen)(g:Nat)
  (u:a.eval d=.map (some m)) (hx:a.eval i=.string s) (z:a.eval f=.pointer (g,0)) (p:∀w',dA P k w' m (aW s.data.toList g l)->w.grownBy w' (some m)->wpList P ops Q rest (a.put o.dst undef) w'):wpList P ops Q (o::rest) a w:=
 wpList_plain q fun A b =>aB9 d i f t c r y h v s x g u hx z fun w' j n=>b _ _ (p w' j n)
def oU(P:Program)(k:TypeId)(w:World)(m r:Nat)(l:List (Nm×Nat))(left:Lit->Bool)(cnt:Nat):Prop:=w.ranges P k zO m r l (mU l) left cnt
def iT{α:Type}(l:List (Nm×α))(left:Lit->Bool):List (Nm×α):=l.filter fun p=>left (.string p.1)
theorem oU.owns{r cnt:Nat}{left:Lit->Bool}(h:oU P k w m r l left cnt):dA P k w m l:=World.ranges.owns h
theorem vJ(j:o.guard=none)(d:Operand)(t:TypeId)(a8:o.op=Op.range t d)(n:P.underlying k=some .string)(s:P.underlying t=some (.map k e))(h:dA P k w m l)(q:a.eval d=.map (some m))
  (i:∀w' b,oU P k w' m w l b l->(∀p∈l,b (.string p.1)=true)->w.grownBy w' none->w'.heap.size=w+1->wpList P ops Q rest (a.put o.dst (.pointer (w,0))) w'):wpList P ops Q (o::rest) a w:=by
 refine wpList_range_own w j d t a8 k e (string_keyed n) s zO m l.length (mU l) q h fun w' c f g=>i w' (Maps.has (mU l)) ?_ ?_ f g
 unfold oU;rw[<-oE l] at c⊢;rw[oE] at c;simpa[oE] using c;intro p r;rw[bN9];unfold aX;rw[Option.isSome_map,List.isSome_find?,List.any_eq_true];exact⟨p,r,σ⟩
theorem aT0{α:Type}{l:List (Nm×α)}{n:Nm}{g:α}{left:Lit->Bool}(j:gJ l)(b:aX n l=some g)(t:left (.string n)=true):
  (iT l left).Perm ((n,g)::iT l (fun z=>left z&& ! z.sameKey (.string n))):=by
 have m:=bY b;induction l with
 |nil=>cases m
 |cons y r ih=>
  have q:gJ r:=(List.pairwise_cons.1 j).2;have o:=(List.pairwise_cons.1 j).1;by_cases c:y.1=n;have s:y=(n,g):=by
   unfold aX at b;rw[List.find?_cons_of_pos (by simp[c])] at b;simp at b;rw[<-b,<-c]
  subst s;have k:∀p∈r,p.1≠n:=fun p h e=>by
   have d:=o p h;rw[e] at d;rw[show bytesBefore n n=false from WideAt.bytes_irrefl n] at d;cases d
  unfold iT;rw[List.filter_cons_of_pos (by exact t),List.filter_cons_of_neg (by simp[Lit.sameKey])];refine List.Perm.cons _ ?_;rw[List.filter_congr (fun p h=>?_)];have:=k p h;simp[Lit.sameKey,this];have i:aX n r=some g:=by
   unfold aX at b⊢;rwa[List.find?_cons_of_neg (by simp[c])] at b
  have f:=ih q i (bY i);unfold iT at f⊢;by_cases a:left (.string y.1)=true
  ·rw[List.filter_cons_of_pos (by exact a),List.filter_cons_of_pos (by simp[Lit.sameKey,a,c])]
   exact(List.Perm.cons _ f).trans (List.Perm.swap _ _ _)
  rw[List.filter_cons_of_neg (by exact a),List.filter_cons_of_neg (by simp[a])];exact f
theorem xO(H:o.guard=none)(A:Operand)(G:o.op=Op.next A false)(p:P.underlying k=some .string){r cnt:Nat}{left:Lit->Bool}(h:oU P k w m r l left cnt)(F:a.eval A=.pointer (some ⟨r,0,none⟩))
  (a8:(∀B,left B=false)->wpList P ops Q rest (a.put o.dst (.tuple #[.bool false])) w)
  (C:∀(s:ByteArray) (g:Nat) (w' :World) (b :Nat),aX s.data.toList l=some g->left (.string s.data.toList)=true->oU P k w' m r l (fun z=>left z&& ! z.sameKey (.string s.data.toList)) b ->b <cnt→
   w.grownBy w' (some r)->w'.heap.size=w->(Instr.entry (.pointer (r,0))).run P w' =.ok (.tuple #[.string s,(g,0)]) w' ->wpList P ops Q rest (a.put o.dst (.tuple #[.bool true,.string s,(g,0)])) w'):wpList P ops Q (o::rest) a w:=by
 refine wpList_next_ranges w H A G k (string_keyed p) zO Value.string bY6 (fun K B d=>by obtain⟨s,rfl,_⟩:=WideMaps.string_of_keyOf p d;exact⟨s,rfl⟩) (fun v y f=>aP2 f) m r l.length (mU l) left cnt F h
  (fun _ I=>a8 I) (fun s c B y w' b d q f i u t n x j=>?_)
 obtain⟨L,E,rfl,_⟩:=WideMaps.string_of_keyOf p d;cases E;have e:=i (.agg []);rw[bC1] at e;rw[bS0] at f;injection f with f
 subst f;cases hg1:aX s.data.toList l with
 |none=>
  rw[hg1] at e;cases c<;>simp at e
 |some g=>
  rw[hg1] at e;cases c with
  |none=>simp at e
  |some g' =>
   have D:g' =g:=by
    simp at e;omega
   subst D;exact C s g' w' b hg1 q u t n x j
end
structure FD where
 b:List UInt8
 b5:Nat
structure fT where
 off:Bool
 j3:Bool
 e5:Int
 part:Int
structure DkD where
 pw:fT
 room:Int
 fs:List (Nm×FD)
def fT.cut(p:fT):Bool×Int×fT:=if p.j3=false then(false,0,p) else if 0<p.e5 then(false,0,{p with e5:=p.e5-1}) else(true,p.part,{p with j3:=false,off:=true})
def bC:List (Nm×FD)->Int
 |[]=>0
 |q::r=>(q.2.b.length:Int)+bC r
def DkD.free(d:DkD):Int:=d.room-bC d.fs
def fits:Int->List (List UInt8)->Bool
 |_,[]=>true
 |left,p::r=>decide ((p:Int)<=left)&&fits (left-p) r
def uJ(part:Int)(p:List UInt8):List UInt8:=p.take (part % (p.length+1)).toNat
def DkD.append(d:DkD)(n:Nm)(parts:List (List UInt8)):Int×DkD:=
 if d.pw.off=true then(50,d) else if n=[]∨32<n.length then(1,d) else if fits d.free parts=false then(52,d)
 else(if d.pw.cut.1=true then 50 else 0,⟨d.pw.cut.2.2,d.room,aW n ⟨((aX n d.fs).getD ⟨[],0⟩).b++(if d.pw.cut.1=true then uJ d.pw.cut.2.1 parts.flatten else parts.flatten),((aX n d.fs).getD ⟨[],0⟩).b5⟩ d.fs⟩)
def DkD.sync(d:DkD)(n:Nm):Int×DkD:=
 if d.pw.off=true then(50,d) else match aX n d.fs with
 |none=>(51,d)
 |some f=>if d.pw.cut.1=true then(50,{d with pw:=d.pw.cut.2.2}) else(0,⟨d.pw.cut.2.2,d.room,aW n ⟨f.b,f.b⟩ d.fs⟩)
def DkD.e0(d:DkD)(fs:List (Nm×FD)):Int×DkD:=
 (if d.pw.cut.1=true then 50 else 0,⟨d.pw.cut.2.2,d.room,if d.pw.cut.1=false∨d.pw.cut.2.1 %2≠0 then fs else d.fs⟩)
def DkD.e6(d:DkD)(n:Nm)(k:Int):Int×DkD:=
 if d.pw.off=true then(50,d) else match aX n d.fs with
 |none=>(51,d)
 |some f=>if k<0∨(f.b:Int)<k then(1,d) else d.e0 (aW n ⟨f.b.take k.toNat,min f.b5 k.toNat⟩ d.fs)
def DkD.rename(d:DkD)(a b:Nm):Int×DkD:=
 if d.pw.off=true then(50,d) else match aX a d.fs with
 |none=>(51,d)
 |some f=>if b=[]∨32<b.length∨a=b then(1,d) else d.e0 (aW b f (bE a d.fs))
def DkD.b6(d:DkD)(n:Nm):Int×DkD:=
 if d.pw.off=true then(50,d) else match aX n d.fs with
 |none=>(51,d)
 |some f=>d.e0 (bE n d.fs)
def DkD.read(d:DkD)(n:Nm):List UInt8×Int:=
 if d.pw.off=true then([],50) else match aX n d.fs with
 |none=>([],51)
 |some f=>(f.b,0)
theorem bA3{a b:List (Nm×FD)}(h:a.Perm b):bC a=bC b:=by
 induction h with
 |nil=>rfl
 |cons x _ ih=>simp[bC,ih]
 |swap x y l=>simp[bC];omega
 |trans _ _ h1 h2=>rw[h1,h2]
theorem dD:∀l:List (Nm×FD),0<=bC l
 |[]=>Int.le_refl _
 |q::r=>by
  have:=dD r;unfold bC;omega
end Go.Proofs.YtgeofijddhflaaaGreatDoor
