/- Layer 3: Text, One, the small case. Condition: the table of powers of ten lies as the program's text lays it. -/
import Derived.Test.YtgeofijddhflaaaGreatDoorLCalcPlain
import Derived.Test.YtgeofijddhflaaaGreatDoorShelf
import Derived.Lib.AppendIntMem
set_option linter.unusedVariables false
set_option linter.unusedSimpArgs false
set_option maxHeartbeats 8000000
set_option maxRecDepth 100000
namespace Go.Proofs.YtgeofijddhflaaaGreatDoor
section
open Go.RowKit
end
section
open Go.RowKit
def sg (p : Bool) (u : Nat) : Int := wrap64 (if p = true then -(u : Int) else u)
end
section
open Go.RowKit
def Tab (w : World) : Prop := Lib.TabIs Tryz.prog w "internal/strconv.uint64pow10" .u64 Lib.pow10Tab
theorem cB8 {P : Program} {name : String} {cs : Array Value} {w w' : World} (h : w.var? P name = some cs) (hb : Below w.heap.size w w') : w'.var? P name = some cs := by
 unfold World.var? at h ⊢;cases hg : P.globalNamed name with
 | none =>
  rw [hg] at h;cases h
 | some g =>
  rw [hg] at h;simp only [Option.bind_some] at h ⊢;by_cases hlt : g < w.heap.size
  ·rw [hb.block g hlt]
   exact h
  rw [Array.getElem?_eq_none (by omega)] at h;cases h
theorem Tab.below {w w' : World} (h : Tab w) (hb : Below w.heap.size w w') : Tab w' := cB8 h hb
theorem dF8 (n : Int) (hn : -9223372036854775808 <= n ∧ n <= 9223372036854775807) (w : World) (ht : Tab w) :
  Calls Tryz.prog 105 #[.int .i64 n] w fun e w' => e = .returned (.string ⟨(Lib.itoa n).toArray⟩) ∧ Below w.heap.size w w' := by
 have HN := qZ hn;have HT := qZ ht;clear hn ht;go_enter Tryz.func105, Tryz.ntmps105
 go_wp2_with fail
 refine (Tryz.strconv_Itoa n HN.out.1 HN.out.2 w HT.out).mono ?_;rintro e w' ⟨rfl, k, os, hw⟩;have hb : Below w.heap.size w w' := by rw [hw]; exact Lib.below_grow _ w (lR _) k os
 clear hw;obtain ⟨l, hl⟩ : ∃ l, l = Lib.itoa n := ⟨_, rfl⟩
 rw [<- hl];have HL := qZ hl;clear hl;go_wp2;go_ret
 exact ⟨by rw [<- HL.out]; rfl, hb⟩
end
end Go.Proofs.YtgeofijddhflaaaGreatDoor
