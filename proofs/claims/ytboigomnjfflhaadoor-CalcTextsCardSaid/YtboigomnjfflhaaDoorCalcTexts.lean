/- Numbers' digits; any text: the walk of the statement. Condition: the library's table and error lie as the program's text lays them. -/
import Derived.Test.YtboigomnjfflhaaDoorCalcFacts
set_option linter.unusedVariables false
namespace Go.Proofs.YtboigomnjfflhaaDoor
open Go.RowKit Oct

theorem calcTexts_facts (W : World) (h : laidMet Tryd.prog Rows.calcTextsRow.laid W) : Facts W := facts_of h

set_option maxHeartbeats 1000000 in
set_option maxRecDepth 100000 in
theorem calcTexts_walk (w : World) (hF : Facts w) (n : Int) (hn : -9223372036854775808 ≤ n ∧ n ≤ 9223372036854775807) (s : ByteArray) (hs : s.size ≤ 140737488351232) :
    Calls Tryd.prog 7 #[.int .i64 n, .string s] w fun e w' => e = .returned (.bool true) ∧ Below w.heap.size w w' := by
  go_enter Tryd.func7, Tryd.ntmps7
  go_wp2_with fail
  refine (small_any w hF.tab).mono ?_
  rintro e w1 ⟨rfl, hb1⟩
  have hF1 := hF.below hb1
  go_wp2_with fail
  refine (parse_any s hs w1 hF1.err).mono ?_
  rintro e w2 ⟨rfl, hb2⟩
  have hF2 := hF1.below hb2
  have hb12 := hb1.trans (hb2.mono hb1.size)
  go_wp2_with fail
  refine (rparse_any s hs w2).mono ?_
  rintro e w3 ⟨rfl, rfl⟩
  generalize parseS s.data.toList = R
  obtain ⟨r1, r2, r3⟩ := R
  go_wp2_with fail
  refine (text_str n hn w2 hF2.tab).mono ?_
  rintro e w4 ⟨rfl, hb4⟩
  obtain ⟨t, ht⟩ : ∃ t, t = str (Lib.itoa n) := ⟨_, rfl⟩
  rw [← ht]
  have HT := Lib.hid ht
  clear ht
  have hb14 := hb12.trans (hb4.mono hb12.size)
  go_wp2_with fail
  refine (rtext_any n hn w4).mono ?_
  rintro e w5 ⟨rfl, hb5⟩
  have hb15 := hb14.trans (hb5.mono hb14.size)
  rw [← HT.out]
  clear hb1 hb2 hb4 hb5 hb12 hb14
  go_wp2
  go_ret
  exact ⟨rfl, hb15⟩
end Go.Proofs.YtboigomnjfflhaaDoor
