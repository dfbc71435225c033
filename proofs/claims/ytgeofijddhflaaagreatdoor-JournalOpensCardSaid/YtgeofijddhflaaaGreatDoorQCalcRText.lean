/- The reference of layer 3: Text. Condition: the number is an int. -/
import Derived.Test.YtgeofijddhflaaaGreatDoorQCalcSmall
import Derived.Test.YtgeofijddhflaaaGreatDoorQHeldS
set_option maxHeartbeats 8000000
set_option maxRecDepth 100000
namespace Go.Proofs.YtgeofijddhflaaaGreatDoor
open Go.RowKit Oct
theorem dF8(u:Nat)(h:u≠0):dgs u=dgs (u/10)++[UInt8.ofNat (48+u %10)]:=by
 unfold dgs;rw[if_neg h];rw[Lib.decDigits];by_cases h1:u<10
 ·rw[dif_pos h1,if_pos (by omega),Nat.mod_eq_of_lt h1]
  rfl
 rw[dif_neg h1,if_neg (by omega)]
theorem cF4(w:World)(c:UInt8):Rd (w.alloc (.cells #[.int .u8 (c.toNat:Int)] 5)) (w.heap.size+1) (some ⟨w.heap.size,0,none⟩) (cells [c]):=by
 intro _;refine⟨_,rfl,by simp,fun j u hu=>?_⟩;rw[show(⟨w.heap.size,0,none⟩:Addr).add j=⟨w.heap.size,j,none⟩ by simp[Addr.add_lit]];rw[cell_of_row _ w.heap.size j #[.int .u8 (c.toNat:Int)] 5 (0,0) (heap_alloc_new w _)]
 simpa[cells] using hu
theorem dI0(u:Nat):(Lib.decDigits u).length<=u+1:=by
 induction u using Nat.strongRecOn with
 |ind u ih=>
  unfold Lib.decDigits;by_cases h:u<10
  ·rw[dif_pos h]
   simp
  rw[dif_neg h];have:=ih (u/10) (by omega);simp
  omega
theorem cZ1(u:Nat):(dgs u).length<=u+1:=by
 unfold dgs;split
 ·simp
 exact dI0 u
theorem cR6(k:Nat):∀u,u<10^(k+1)->(Lib.decDigits u).length<=k+1:=by
 induction k with
 |zero=>
  intro u h;unfold Lib.decDigits;rw[dif_pos (by simpa using h)];simp
 |succ k ih=>
  intro u h;unfold Lib.decDigits;by_cases h1:u<10
  ·rw[dif_pos h1]
   simp
  rw[dif_neg h1];have:=ih (u/10) (by rw[Nat.pow_succ] at h;omega);simp
  omega
theorem cS3(u:Nat)(h:u<18446744073709551616):(dgs u).length<=20:=by
 unfold dgs;split
 ·simp
 exact cR6 19 u (by omega)
theorem bP9(a b:List UInt8):str (a++b)=str a++str b:=(ByteArray.mk_append_mk a b).symm
theorem bT2{B:Nat}{w w' :World}(h:Below B w.drew w'):Below B w w' :=⟨h.os,h.tape,h.output,h.size,h.block⟩
theorem dD4(w:World)(n:Nat)(hn:n=w.heap.size)(c:UInt8)(X:Int)(hX:X=(c.toNat:Int)):(convert 34 9 (.slice (some ⟨n,0,none⟩) 1 1)).run Tryz.prog (w.alloc (.cells #[.int .u8 X] 5))=.ok (.string (str [c])) (w.alloc (.cells #[.int .u8 X] 5)):=by
 subst hX;subst hn;exact bU2 34 9 5 Tryz.underlying34 Tryz.underlying5 Tryz.underlying9 1 1 rfl (cF4 w c)
theorem cX6(w:World)(c:UInt8)(X:Int)(hX:X=(c.toNat:Int)):(convert 34 9 (.slice (some ⟨w.heap.size,0,none⟩) 1 1)).run Tryz.prog (w.alloc (.cells #[.int .u8 X] 5)).drew=.ok (.string (str [c])) (w.alloc (.cells #[.int .u8 X] 5)).drew:=by
 subst hX;exact bU2 34 9 5 Tryz.underlying34 Tryz.underlying5 Tryz.underlying9 1 1 rfl ((cF4 w c).keep fun _ _=>rfl)
theorem cQ0{w w1:World}{B:Nat}(c:UInt8)(X:Int)(hX:X=(c.toNat:Int))(hb:Below B (w.alloc (.cells #[.int .u8 X] 5)).drew w1)(hB:w.heap.size+1<=B):(convert 34 9 (.slice (some ⟨w.heap.size,0,none⟩) 1 1)).run Tryz.prog w1=.ok (.string (str [c])) w1:=by
 subst hX;have h1:Rd (w.alloc (.cells #[.int .u8 (c.toNat:Int)] 5)).drew (w.heap.size+1) (some ⟨w.heap.size,0,none⟩) (cells [c]):=(cF4 w c).keep fun _ _=>rfl
 exact bU2 34 9 5 Tryz.underlying34 Tryz.underlying5 Tryz.underlying9 1 1 rfl (h1.below (hb.mono hB))
theorem bI6(k:Nat):∀(u:Nat) (U:Int) (w:World),U=(u:Int)->u<k->u<18446744073709551616→
  Calls Tryz.prog 169 #[.int .u64 U] w fun e w' =>e=.returned (.string (str (dgs u)))∧Below w.heap.size w w' :=by
 induction k with
 |zero=>intro u U w _ h;omega
 |succ k ih=>
  intro u U w hU hk hu;subst hU;by_cases h0:u=0
  ·subst h0
   have e:dgs 0=[]:=rfl;rw[e];clear e;go_enter Tryz.func169,Tryz.ntmps169
   go_wp2;go_ret
   exact⟨rfl,lS _ _⟩
  have HS:=qZ (dF8 u h0);have d0:((u:Int)==0)=false:=beq_eq_false_iff_ne.2 (by omega);have g9:1<=u:=by omega
  have IH:=qZ (ih (u/10));clear ih h0;go_enter Tryz.func169,Tryz.ntmps169
  have uw:∀x:Int,0<=x->x<18446744073709551616->IntKind.u64.wrap x=x:=fun x h1 h2=>by
   simp[IntKind.wrap,IntKind.bits,IntKind.signed]
   omega
  have z1:=uw ((u:Int)/10) (by omega) (by omega);have z2:=uw ((u:Int) %10) (by omega) (by omega);have z3:=uw (48+(u:Int) %10) (by omega) (by omega);have z4:IntKind.u8.wrap (48+(u:Int) %10)=48+(u:Int) %10:=by
   simp[IntKind.wrap,IntKind.bits,IntKind.signed]
   omega
  have z5:(u:Int).tmod 10=(u:Int) %10:=Int.tmod_eq_emod_of_nonneg (by omega);clear uw;have f8:(UInt8.ofNat (48+u %10)).toNat=48+u %10:=bN0 _ (by omega);obtain⟨c,hc⟩:∃c,c=UInt8.ofNat (48+u %10):=⟨_,rfl⟩
  rw[<-hc] at f8 HS;have b8:(48+(u:Int) %10)=(c.toNat:Int):=by omega
  have g8:=qZ b8;have f6:=cZ1 (u/10);have s1:(str (dgs (u/10))).size=(dgs (u/10)).length:=by simp[str,ByteArray.size]
  have s2:(str [c]).size=1:=by simp[str,ByteArray.size]
  have s3:¬9223372036854775807<(str (dgs (u/10))).size+(str [c]).size:=by omega
  have s4:(str (dgs (u/10))).size+(str [c]).size<=9223372036854775807:=by omega
  obtain⟨t1,d9⟩:∃t,t=str (dgs (u/10)):=⟨_,rfl⟩
  obtain⟨t2,a9⟩:∃t,t=str [c]:=⟨_,rfl⟩
  rw[<-d9,<-a9] at s3 s4;have f7:=qZ d9;have f9:=qZ a9;have qB:=cX6 w c (48+(u:Int) %10) b8;rw[<-a9] at qB;clear hc f8 b8 s1 s2 f6 d9 a9;go_wp2_with fail
  go_region_with (go_at_call 169;refine(IH.out _ _ (by omega) (by omega) (by omega)).mono ?_;rintro e w1 ⟨rfl,a8⟩;rw[<-f7.out];have qA:=dD4 w1 w1.heap.size rfl c (48+(u:Int) %10) g8.out;(first|have qC:=cQ0 (w:=w) c (48+(u:Int) %10) g8.out a8 (by simp)|have qC:=qA);rw[<-f9.out] at qA qC)
  all_goals
   have d8:Below w.heap.size w w1:=by
    first
    |exact bT2 a8
    |exact(((lS _ w).alloc (lR _) _).drew).trans (a8.mono (by simp))
   clear qA qC qB a8;go_wp2;go_ret
   refine⟨?_,?_⟩
   ·rw[HS.out,bP9,<-f7.out,<-f9.out]
    rfl
   first
   |exact d8
   |exact d8.alloc d8.size _
theorem dB1(m:Nat)(h:1<=m):Lib.itoa (-(m:Int))=45::dgs m:=by
 unfold Lib.itoa dgs;rw[if_pos (by omega),if_neg (by omega)]
 congr 2
 omega
theorem dC6(m:Nat)(h:1<=m):Lib.itoa (m:Int)=dgs m:=by
 unfold Lib.itoa dgs;rw[if_neg (by omega),if_neg (by omega)]
 rfl
theorem cX3:Lib.itoa 0=[48]:=by decide+kernel
theorem cV6(n:Int)(hn:-9223372036854775808<=n∧n<=9223372036854775807)(w:World):
  Calls Tryz.prog 138 #[.int .i64 n] w fun e w' =>e=.returned (.string (str (Lib.itoa n)))∧Below w.heap.size w w' :=by
 by_cases h0:n=0
 ·subst h0
  rw[cX3];clear hn;go_enter Tryz.func138,Tryz.ntmps138
  go_wp2;go_ret
  exact⟨rfl,lS _ _⟩
 have d0:(n==0)=false:=beq_eq_false_iff_ne.2 h0;by_cases h1:n<0
 ·obtain⟨m,hm⟩:∃m:Nat,m=n.natAbs:=⟨_,rfl⟩
  have d8:1<=m:=by omega
  have f7:m<=9223372036854775808:=by omega
  have hI:Hid (str (Lib.itoa n)=str [45]++str (dgs m)):=qZ (by
   rw[show n=-(m:Int) by omega,dB1 m d8,<-bP9]
   rfl)
  have a9:=qZ (cI4 n hn w);rw[<-hm] at a9;have d9:=cZ1 m;have s1:(str (dgs m)).size=(dgs m).length:=by simp[str,ByteArray.size]
  obtain⟨t1,a8⟩:∃t,t=str (dgs m):=⟨_,rfl⟩
  have s4:1+t1.size<=9223372036854775807∨True:=.inr trivial;have f6:(dgs m).length<=20:=cS3 m (by omega);have s3:t1.size<=20:=by rw[a8,s1];exact f6
  have b8:=qZ a8;clear hn hm h0 d9 s1 a8 s4 f6;rw[hI.out,<-b8.out];go_enter Tryz.func138,Tryz.ntmps138
  go_wp2_with fail
  refine a9.out.mono ?_;rintro e w1 ⟨rfl,rfl⟩;go_wp2_with fail
  refine(bI6 (m+1) m _ w rfl (by omega) (by omega)).mono ?_;rintro e w1 ⟨rfl,hb⟩;rw[<-b8.out];go_wp2;go_ret
  exact⟨rfl,hb⟩
 obtain⟨m,rfl⟩:=Int.eq_ofNat_of_zero_le (show 0<=n by omega);have d8:1<=m:=by omega
 have hI:=qZ (dC6 m d8);have a9:=qZ (cI4 (m:Int) hn w);have f7:m<=9223372036854775807:=by omega
 clear hn h0 h1;rw[hI.out];rw[Int.natAbs_natCast] at a9;go_enter Tryz.func138,Tryz.ntmps138
 go_wp2_with fail
 refine a9.out.mono ?_;rintro e w1 ⟨rfl,rfl⟩;go_wp2_with fail
 refine(bI6 (m+1) m _ w rfl (by omega) (by omega)).mono ?_;rintro e w1 ⟨rfl,hb⟩;obtain⟨t1,a8⟩:∃t,t=str (dgs m):=⟨_,rfl⟩
 rw[<-a8];have b8:=qZ a8;clear a8;go_wp2;go_ret
 exact⟨by rw[<-b8.out];rfl,hb⟩
end Go.Proofs.YtgeofijddhflaaaGreatDoor
