/- Digits are read as the number: the walk of the statement. Condition: the library's table and error lie as the program's text lays them. -/
import Derived.Test.YtboigomnjfflhaaDoorCalcFacts
set_option linter.unusedVariables false
namespace Go.Proofs.YtboigomnjfflhaaDoor
open Go.RowKit Oct

theorem not_digit (c : UInt8) (h : isD c = false) : (c.toNat : Int) < 48 ∨ 57 < (c.toNat : Int) := by
  unfold isD at h
  have := of_decide_eq_false h
  omega
theorem calcBack_facts (W : World) (h : laidMet Tryd.prog Rows.calcBackRow.laid W) : Facts W := facts_of h

set_option maxHeartbeats 1000000 in
set_option maxRecDepth 100000 in
theorem calcBack_walk (w : World) (hF : Facts w) (n : Int) (hn : -9223372036854775808 ≤ n ∧ n ≤ 9223372036854775807) (s : ByteArray) (hs : s.size ≤ 140737488351232) :
    Calls Tryd.prog 8 #[.int .i64 n, .string s] w fun e w' => e = .returned (.bool true) ∧ Below w.heap.size w w' := by
  by_cases hlong : 1048576 < s.size
  · have hlI : (1048576 : Int) < s.size := by omega
    go_enter Tryd.func8, Tryd.ntmps8
    go_wp2_with fail
    refine (small_any w hF.tab).mono ?_
    rintro e w1 ⟨rfl, hb1⟩
    have hF1 := hF.below hb1
    go_wp2
    go_ret
    exact ⟨rfl, hb1⟩
  have hlI : ¬ (1048576 : Int) < s.size := by omega
  by_cases hdig : ∃ h : 0 < s.size, isD s[0] = true
  · obtain ⟨h0, hd⟩ := hdig
    obtain ⟨g1, g2⟩ := of_decide_eq_true hd
    have g1I : (48 : Int) ≤ (s[0].toNat : Int) := by omega
    have g2I : (s[0].toNat : Int) ≤ 57 := by omega
    have h0I : (0 : Int) < s.size := by omega
    clear hd
    go_enter Tryd.func8, Tryd.ntmps8
    go_wp2_with fail
    refine (small_any w hF.tab).mono ?_
    rintro e w1 ⟨rfl, hb1⟩
    have hF1 := hF.below hb1
    go_wp2
    go_ret
    exact ⟨rfl, hb1⟩
  have hb : ∀ c, s.data.toList.head? = some c → isD c = false := by
    intro c hc
    by_cases h0 : 0 < s.size
    · have hh : s.data.toList.head? = some s[0] := by
        rw [List.head?_eq_getElem?, List.getElem?_eq_getElem (by simpa using h0)]
        rfl
      rw [hh] at hc
      injection hc with hc
      subst hc
      have : ¬ isD s[0] = true := fun h => hdig ⟨h0, h⟩
      simpa using this
    · have hzl : s.data.toList.length = s.size := by simp
      have hz : s.data.toList = [] := List.eq_nil_of_length_eq_zero (by rw [hzl]; exact Nat.eq_zero_of_not_pos h0)
      rw [hz] at hc
      cases hc
  have HB := Lib.hid hb
  have hsplit : s.size = 0 ∨ ∃ h : 0 < s.size, (s[0].toNat : Int) < 48 ∨ 57 < (s[0].toNat : Int) := by
    by_cases h0 : 0 < s.size
    · exact .inr ⟨h0, not_digit _ (by have : ¬ isD s[0] = true := fun h => hdig ⟨h0, h⟩; simpa using this)⟩
    · exact Or.inl (Nat.eq_zero_of_not_pos h0)
  clear hb hdig
  have HS := Lib.hid hsplit
  clear hsplit
  go_enter Tryd.func8, Tryd.ntmps8
  go_wp2_with fail
  refine (small_any w hF.tab).mono ?_
  rintro e w1 ⟨rfl, hb1⟩
  have hF1 := hF.below hb1
  go_upto_region 2 with fail
  go_cut [28] (fun s28 wx => s28 = .bool false ∧ wx = w1)
  case first =>
    rcases HS.out with hz | ⟨h0, h1 | h1⟩
    · have h0I : ¬ (0 : Int) < s.size := by omega
      clear hz
      go_wp2_with fail
      go_meet
      exact ⟨by first | rfl | exact congrArg Value.bool (decide_eq_false (by omega)) | (refine congrArg Value.bool ?_; simp; omega), rfl⟩
    · have h0I : (0 : Int) < s.size := by omega
      go_wp2_with fail
      go_meet
      exact ⟨by first | rfl | exact congrArg Value.bool (decide_eq_false (by omega)) | (refine congrArg Value.bool ?_; simp; omega), rfl⟩
    · have h0I : (0 : Int) < s.size := by omega
      have h2 : ¬ (s[0].toNat : Int) < 48 := by omega
      go_wp2_with fail
      go_meet
      exact ⟨by first | rfl | exact congrArg Value.bool (decide_eq_false (by omega)) | (refine congrArg Value.bool ?_; simp; omega), rfl⟩
  case rest =>
    obtain ⟨rfl, rfl⟩ := hcut
    go_wp2_with fail
    refine (text_str n hn _ hF1.tab).mono ?_
    rintro e w2 ⟨rfl, hb2⟩
    have hF2 := hF1.below hb2
    have hb12 := hb1.trans (hb2.mono hb1.size)
    by_cases hn0 : n < 0
    · obtain ⟨m, hm⟩ : ∃ m : Nat, m = n.natAbs := ⟨_, rfl⟩
      have hm1 : 1 ≤ m := by omega
      obtain rfl : n = -(m : Int) := by omega
      have hit := itoa_neg m hm1
      have hdl := dgs_short m (by omega)
      have hd0 : dgs m ≠ [] := by
        unfold dgs
        rw [if_neg (by omega)]
        exact (decDigits_val m).2.2.1
      have hd1 : 0 < (dgs m).length := List.length_pos_iff.2 hd0
      obtain ⟨t, ht⟩ : ∃ t, t = str (Lib.itoa (-(m : Int))) := ⟨_, rfl⟩
      have hts : t.size = 1 + (dgs m).length := by rw [ht, hit]; simp [str, ByteArray.size]; omega
      have htd : t.data.toList = 45 :: dgs m := by rw [ht, hit]; rfl
      have hap : (t ++ s).data.toList = 45 :: (dgs m ++ s.data.toList) := by rw [ByteArray.data_append]; simp [htd]
      have HP : Hid (parseS (t ++ s).data.toList = (0, 0, 4)) := Lib.hid (by rw [hap]; exact parse_minus _)
      have h0lt : 0 < t.size := by omega
      have ht0 : (t[0]'h0lt).toNat = 45 := by
        have h1 : t.data.toList[0]? = some 45 := by rw [htd]; rfl
        have h2 : t.data.toList[0]? = some (t[0]'h0lt) := List.getElem?_eq_getElem (by simp; omega)
        rw [h1] at h2
        injection h2 with h2
        rw [← h2]
        rfl
      have hts1 : 1 < t.size := by omega
      have hts2 : t.size ≤ 21 := by omega
      have hts3 : t.size + s.size ≤ 140737488351232 := by omega
      have hsz : (t ++ s).size ≤ 140737488351232 := by rw [ByteArray.size_append]; exact hts3
      have PA := Lib.hid (parse_any (t ++ s) hsz w2 hF2.err)
      rw [HP.out] at PA
      rw [← ht]
      have h45 : (((t[0]'h0lt).toNat : Int) == 45) = true := by rw [ht0]; rfl
      have hneg : decide (-(m : Int) < 0) = true := by simp; omega
      have H45 := Lib.hid h45
      clear hn hm hit hdl hd0 hd1 ht hts htd hap ht0 hsz h45
      go_wp2_with fail
      refine PA.out.mono ?_
      rintro e w3 ⟨rfl, hb3⟩
      have hb13 := hb12.trans (hb3.mono hb12.size)
      clear PA hb3 hb12 hb2 hb1
      go_wp2
      · go_ret
        exact ⟨rfl, hb13⟩
      · have h45 := H45.out
        exact absurd (by simpa using h45) (by assumption)
    · obtain ⟨m, rfl⟩ := Int.eq_ofNat_of_zero_le (show 0 ≤ n by omega)
      have hit : Lib.itoa (m : Int) = Lib.decDigits m := by
        unfold Lib.itoa
        rw [if_neg (by omega)]
        rfl
      have hdl := dec_short 19 m (by omega)
      obtain ⟨t, ht⟩ : ∃ t, t = str (Lib.itoa (m : Int)) := ⟨_, rfl⟩
      have hts : t.size = (Lib.decDigits m).length := by rw [ht, hit]; simp [str, ByteArray.size]
      have hap : (t ++ s).data.toList = Lib.decDigits m ++ s.data.toList := by rw [ByteArray.data_append, ht, hit]; simp [str]
      have HP : Hid (parseS (t ++ s).data.toList = ((m : Int), t.size, 0)) := Lib.hid (by rw [hap, hts]; exact parse_digits m (by omega) _ HB.out)
      have hts2 : t.size ≤ 21 := by omega
      have hts3 : t.size + s.size ≤ 140737488351232 := by omega
      have hsz : (t ++ s).size ≤ 140737488351232 := by rw [ByteArray.size_append]; exact hts3
      have PA := Lib.hid (parse_any (t ++ s) hsz w2 hF2.err)
      rw [HP.out] at PA
      rw [← ht]
      clear hn hit hdl ht hts hap hsz
      go_wp2_with fail
      refine PA.out.mono ?_
      rintro e w3 ⟨rfl, hb3⟩
      have hb13 := hb12.trans (hb3.mono hb12.size)
      clear PA hb3 hb12 hb2 hb1
      go_wp2
      go_ret
      exact ⟨rfl, hb13⟩
end Go.Proofs.YtboigomnjfflhaaDoor
