/- Layer 3: Text, One, the small case. Condition: the table of powers of ten lies as the program's text lays it. -/
import Derived.Test.YtgeofijddhflaaaGreatDoorQCalcPlain
import Derived.Test.YtgeofijddhflaaaGreatDoorShelf
import Derived.Lib.AppendIntMem
set_option maxHeartbeats 8000000
set_option maxRecDepth 100000
namespace Go.Proofs.YtgeofijddhflaaaGreatDoor
section
open Go.RowKit
end
section
open Go.RowKit
theorem dO4{a a' :Value}(h:a=a'):Ending.returned a=.returned a' :=by rw[h]
theorem cI4(n:Int)(hn:-9223372036854775808<=n∧n<=9223372036854775807)(w:World):
  Calls Tryz.prog 170 #[.int .i64 n] w fun e w' =>e=.returned (.int .u64 (n.natAbs:Nat))∧w=w' :=by
 by_cases h:n<0
 ·obtain⟨m,hm⟩:∃m:Nat,m=n.natAbs:=⟨_,rfl⟩
  rw[<-hm];have b8:1<=m:=by omega
  have a8:m<=9223372036854775808:=by omega
  obtain rfl:n=-(m:Int):=by omega
  have HM:Hid ((-(-(m:Int)+1))+1=(m:Int)):=qZ (by omega);clear hn h hm;have d8:(1:Int)<=m:=by omega
  have a9:(m:Int)<=9223372036854775808:=by omega
  go_enter Tryz.func170,Tryz.ntmps170
  go_wp2;go_ret
  exact⟨dO4 (congrArg (Value.int .u64) HM.out),rfl⟩
 obtain⟨m,rfl⟩:=Int.eq_ofNat_of_zero_le (show 0<=n by omega);have a8:m<=9223372036854775807:=by omega
 clear hn h;rw[Int.natAbs_natCast];go_enter Tryz.func170,Tryz.ntmps170
 go_wp2;go_ret
 exact⟨rfl,rfl⟩
end
section
open Go.RowKit
def sg(p:Bool)(u:Nat):Int:=wrap64 (if p=true then-(u:Int) else u)
end
section
open Go.RowKit
def Tab(w:World):Prop:=Lib.TabIs Tryz.prog w "internal/strconv.uint64pow10" .u64 Lib.pow10Tab
theorem bZ4{P:Program}{name:String}{cs:Array Value}{w w' :World}(h:w.var? P name=some cs)(hb:Below w.heap.size w w'):w'.var? P name=some cs:=by
 unfold World.var? at h⊢;cases hg:P.globalNamed name with
 |none=>
  rw[hg] at h;cases h
 |some g=>
  rw[hg] at h;simp only[Option.bind_some] at h⊢;by_cases hlt:g<w.heap.size
  ·rw[hb.block g hlt]
   exact h
  rw[Array.getElem?_eq_none (by omega)] at h;cases h
theorem Tab.below{w w' :World}(h:Tab w)(hb:Below w.heap.size w w'):Tab w' :=bZ4 h hb
theorem dG1(n:Int)(hn:-9223372036854775808<=n∧n<=9223372036854775807)(w:World)(ht:Tab w):
  Calls Tryz.prog 105 #[.int .i64 n] w fun e w' =>e=.returned (.string ⟨(Lib.itoa n).toArray⟩)∧Below w.heap.size w w' :=by
 have HN:=qZ hn;have HT:=qZ ht;clear hn ht;go_enter Tryz.func105,Tryz.ntmps105
 go_wp2_with fail
 refine(Tryz.strconv_Itoa n HN.out.1 HN.out.2 w HT.out).mono ?_;rintro e w' ⟨rfl,k,os,hw⟩;have hb:Below w.heap.size w w' :=by rw[hw];exact Lib.below_grow _ w (lR _) k os
 clear hw;obtain⟨l,hl⟩:∃l,l=Lib.itoa n:=⟨_,rfl⟩
 rw[<-hl];have HL:=qZ hl;clear hl;go_wp2;go_ret
 exact⟨by rw[<-HL.out];rfl,hb⟩
end
end Go.Proofs.YtgeofijddhflaaaGreatDoor
