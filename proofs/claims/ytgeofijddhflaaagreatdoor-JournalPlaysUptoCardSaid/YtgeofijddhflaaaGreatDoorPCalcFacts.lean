/- What the statements' rows lay of the library's variables, as the walks want it. No condition. -/
import Derived.Test.YtgeofijddhflaaaGreatDoorPCalcRParse
import Derived.Test.YtgeofijddhflaaaGreatDoorRows
import Derived.Stop.LaidErr
set_option linter.unusedVariables false
set_option linter.unusedSimpArgs false
set_option maxHeartbeats 8000000
set_option maxRecDepth 100000
namespace Go.Proofs.YtgeofijddhflaaaGreatDoor
open Go.RowKit Oct
theorem bN4(u:Nat)(h:u≠0):yI u=yI (u/10)++[UInt8.ofNat (48+u %10)]:=by
 unfold yI;rw[if_neg h];rw[Lib.decDigits];by_cases a:u<10;rw[dif_pos a,if_pos O,Nat.mod_eq_of_lt a];rfl;rw[dif_neg a,if_neg O]
theorem aJ9(w:World)(c:UInt8):Rd (w.alloc (.cells #[.int .u8 (c.toNat:Int)] 5)) (w.heap.size+1) (w,0) (cells [c]):=by
 intro _;refine⟨_,rfl,σ,fun j u a=>?_⟩;rw[show((w,0):Addr).add j=⟨w,j,none⟩ by simp[Addr.add_lit]];rw[cell_of_row _ w j #[.int .u8 (c.toNat:Int)] 5 (0,0) (heap_alloc_new w _)];simpa[cells] using a
theorem bW4(u:Nat):(Lib.decDigits u).length<=u+1:=by
 induction u using Nat.strongRecOn with
 |ind u ih=>
  unfold Lib.decDigits;by_cases h:u<10;rw[dif_pos h];simp;rw[dif_neg h];have:=ih (u/10) O;simp;omega
theorem bW5(u:Nat):(yI u).length<=u+1:=by
 unfold yI;split;simp;exact bW4 u
theorem bE6(k:Nat):∀u,u<10^(k+1)->(Lib.decDigits u).length<=k+1:=by
 induction k with
 |zero=>
  intro u h;unfold Lib.decDigits;rw[dif_pos (by simpa using h)];simp
 |succ k ih=>
  intro u h;unfold Lib.decDigits;by_cases a:u<10;rw[dif_pos a];simp;rw[dif_neg a];have:=ih (u/10) (by rw[Nat.pow_succ] at h;omega);simp;omega
theorem bE7(u:Nat)(h:u<18446744073709551616):(yI u).length<=20:=by
 unfold yI;split;simp;exact bE6 19 u O
theorem aA7(a b:List UInt8):bU (a++b)=bU a++bU b:=(ByteArray.mk_append_mk a b).symm
theorem aC3{B:Nat}{w w' :World}(h:Below B w.drew w'):Below B w w' :=⟨h.os,h.tape,h.output,h.size,h.block⟩
theorem bN1(w:World)(n:Nat)(b:n=w)(c:UInt8)(X:Int)(a:X=(c.toNat:Int)):(convert 34 9 (.slice (n,0) 1 1)).run Tryz.prog (w.alloc (.cells #[.int .u8 X] 5))=.ok (.string (bU [c])) (w.alloc (.cells #[.int .u8 X] 5)):=by
 subst a;subst b;exact xW 34 9 5 Tryz.underlying34 Tryz.underlying5 Tryz.underlying9 1 1 rfl (aJ9 w c)
theorem bE3(w:World)(c:UInt8)(X:Int)(a:X=(c.toNat:Int)):(convert 34 9 (.slice (w,0) 1 1)).run Tryz.prog (w.alloc (.cells #[.int .u8 X] 5)).drew=.ok (.string (bU [c])) (w.alloc (.cells #[.int .u8 X] 5)).drew:=by
 subst a;exact xW 34 9 5 Tryz.underlying34 Tryz.underlying5 Tryz.underlying9 1 1 rfl ((aJ9 w c).b1 fun _ _=>rfl)
theorem aU7{w w1:World}{B:Nat}(c:UInt8)(X:Int)(d:X=(c.toNat:Int))(e:Below B (w.alloc (.cells #[.int .u8 X] 5)).drew w1)(b:w+1<=B):(convert 34 9 (.slice (w,0) 1 1)).run Tryz.prog w1=.ok (.string (bU [c])) w1:=by
 subst d;have a:Rd (w.alloc (.cells #[.int .u8 (c.toNat:Int)] 5)).drew (w.heap.size+1) (w,0) (cells [c]):=(aJ9 w c).b1 fun _ _=>rfl
 exact xW 34 9 5 Tryz.underlying34 Tryz.underlying5 Tryz.underlying9 1 1 rfl (a.a1 (e.mono b))
theorem vT(k:Nat):∀(u:Nat) (U:Int) (w:World),U=(u:Int)->u<k->u<18446744073709551616→
  Calls Tryz.prog 169 #[.int .u64 U] w fun e G =>e=.returned (.string (bU (yI u)))∧Below w w G :=by
 induction k with
 |zero=>intro u U w _ h;omega
 |succ k ih=>
  intro u U w B L M;subst B;by_cases j:u=0
  ·subst j
   have e:yI 0=[]:=rfl;rw[e];clear e;go_enter Tryz.func169,Tryz.ntmps169;go_wp2;go_ret;exact⟨rfl,lS _ _⟩
  have p:=J (bN4 u j);have H:((u:Int)==0)=false:=mN.2 O;have N:1<=u:=O;have z:=J (ih (u/10));clear ih j;go_enter Tryz.func169,Tryz.ntmps169;have d:∀x:Int,0<=x->x<18446744073709551616->IntKind.u64.wrap x=x:=fun x I K=>by
   simp[IntKind.wrap,IntKind.bits,IntKind.signed];omega
  have R:=d ((u:Int)/10) O O;have S:=d ((u:Int) %10) O O;have T:=d (48+(u:Int) %10) O O;have V:IntKind.u8.wrap (48+(u:Int) %10)=48+(u:Int) %10:=by
   simp[IntKind.wrap,IntKind.bits,IntKind.signed];omega
  have W:(u:Int).tmod 10=(u:Int) %10:=Int.tmod_eq_emod_of_nonneg O;clear d;have v:(UInt8.ofNat (48+u %10)).toNat=48+u %10:=uP _ O;obtain⟨c,r⟩:=eX (UInt8.ofNat (48+u %10));rw[<-r] at v p;have g:(48+(u:Int) %10)=(c.toNat:Int):=O;have q:=J g;have A:=bW5 (u/10);have C:(bU (yI (u/10))).size=(yI (u/10)).length:=by simp[bU,ByteArray.size]
  have D:(bU [c]).size=1:=by simp[bU,ByteArray.size]
  have E:¬9223372036854775807<(bU (yI (u/10))).size+(bU [c]).size:=O;have F:(bU (yI (u/10))).size+(bU [c]).size<=9223372036854775807:=O;obtain⟨P,i⟩:=eX (bU (yI (u/10)));obtain⟨Q,b⟩:=eX (bU [c]);rw[<-i,<-b] at E F;have s:=J i;have t:=J b;have y:=bE3 w c (48+(u:Int) %10) g;rw[<-b] at y;clear r v g C D A i b;go_wp2_with fail;go_region_with (go_at_call 169;refine(z.o _ _ O O O).mono ?_;rintro e n ⟨rfl,a⟩;rw[<-s.o];have l:=bN1 n n rfl c (48+(u:Int) %10) q.o;(first|have m:=aU7 (w:=w) c (48+(u:Int) %10) q.o a σ|have m:=l);rw[<-t.o] at l m)
  all_goals
   have f:Below w w n:=by
    first
    |exact aC3 a
    |exact(((lS _ w).alloc (lR _) _).drew).trans (a.mono σ)
   clear l m y a;go_wp2;go_ret;refine⟨?_,?_⟩;rw[p.o,aA7,<-s.o,<-t.o];rfl
   first
   |exact f
   |exact f.alloc f.size _
theorem bP6(m:Nat)(h:1<=m):Lib.itoa (-(m:Int))=45::yI m:=by
 unfold Lib.itoa yI;rw[if_pos O,if_neg O]
 congr 2
 omega
theorem bP7(m:Nat)(h:1<=m):Lib.itoa (m:Int)=yI m:=by
 unfold Lib.itoa yI;rw[if_neg O,if_neg O];rfl
theorem bG1:Lib.itoa 0=[48]:=by decide+kernel
theorem bJ9(n:Int)(c:I6 n)(w:World):
  Calls Tryz.prog 138 #[n] w fun e t =>e=.returned (.string (bU (Lib.itoa n)))∧Below w w t :=by
 by_cases f:n=0
 ·subst f
  rw[bG1];clear c;go_enter Tryz.func138,Tryz.ntmps138;go_wp2;go_ret;exact⟨rfl,lS _ _⟩
 have u:=mN.2 f;by_cases s:n<0
 ·obtain⟨m,l⟩:∃m:Nat,m=n.natAbs:=⟨_,rfl⟩
  have g:1<=m:=O;have r:m<=9223372036854775808:=O;have h:Hq (bU (Lib.itoa n)=bU [45]++bU (yI m)):=J (by
   rw[show n=-(m:Int) by omega,bP6 m g,<-aA7];rfl)
  have b:=J (aS2 n c w);rw[<-l] at b;have p:(bU (yI m)).size=(yI m).length:=by simp[bU,ByteArray.size]
  obtain⟨q,a⟩:=eX (bU (yI m));have k:=bE7 m O;have v:q.size<=20:=by rw[a,p];exact k
  have d:=J a;clear c l f p a k;rw[h.o,<-d.o];go_enter Tryz.func138,Tryz.ntmps138;go_wp2_with fail;refine b.o.mono ?_;rintro e j ⟨rfl,rfl⟩;go_wp2_with fail;refine(vT (m+1) m _ w rfl O O).mono ?_;rintro e j ⟨rfl,i⟩;rw[<-d.o];go_wp2;go_ret;exact⟨rfl,i⟩
 obtain⟨m,rfl⟩:=Int.eq_ofNat_of_zero_le (show 0<=n by omega);have g:1<=m:=O;have h:=J (bP7 m g);have b:=J (aS2 (m:Int) c w);have r:m<=9223372036854775807:=O;clear c f s;rw[h.o];rw[Int.natAbs_natCast] at b;go_enter Tryz.func138,Tryz.ntmps138;go_wp2_with fail;refine b.o.mono ?_;rintro e j ⟨rfl,rfl⟩;go_wp2_with fail;refine(vT (m+1) m _ w rfl O O).mono ?_;rintro e j ⟨rfl,i⟩;obtain⟨q,a⟩:=eX (bU (yI m));rw[<-a];have d:=J a;clear a;go_wp2;go_ret;exact⟨by rw[<-d.o];rfl,i⟩
structure nH(w:World):Prop where
 tab:aM0 w
 err:aC2 w
theorem nH.a1{w w' :World}(h:nH w)(a:Below w w w'):nH w' :=⟨h.tab.a1 a,h.err.a1 a⟩
theorem aS3: "*" ++ "errors.errorString" = "*errors.errorString" :=by decide
theorem bZ0(u:TypeId)(h:Tryz.prog.typeName? 3 u=some "*errors.errorString"):u=264:=
 typeName_ptr_named (nm:= "errors.errorString") (by rw[aS3];kernel_rfl) κ δ u (by rw[aS3];exact h)
theorem bO4{W:World}{r:List (String×DataW Unit)}
  (h:laidMet Tryz.prog (("math/bits.deBruijn32tab",Rows.laid_math_bits_deBruijn32tab)::("math/bits.deBruijn64tab",Rows.laid_math_bits_deBruijn64tab)::("internal/strconv.uint64pow10",Rows.laid_internal_strconv_uint64pow10)::("strconv.ErrRange",Rows.laid_strconv_ErrRange)::r) W):nH W:=by
 refine⟨Lib.tabIs_of_head (g:=3) (n:=20) (t:=261) (e:=187) κ κ Tryz.underlying261 Tryz.underlying187 κ κ (laidMet.tail (laidMet.tail h)),?_⟩;obtain⟨b,c,a,-,-,-⟩:=laid_sentinel (laidMet.tail (laidMet.tail (laidMet.tail h))) (g:=2) (ti:=201) (tp:=264) (te:=266) (ts:=9) κ κ Tryz.underlying201 bZ0 Tryz.underlying264 Tryz.underlying266 rfl rfl Tryz.underlying9 κ κ;exact⟨_,_,a⟩
theorem bU0(n:Int)(a:I6 n)(w:World)(b:aM0 w):
  Calls Tryz.prog 105 #[n] w fun e c =>e=.returned (.string (bU (Lib.itoa n)))∧Below w w c :=bT9 n a w b
end Go.Proofs.YtgeofijddhflaaaGreatDoor
