/- How texts stand in bytes, and which one bytes begin with: the walk of the statement. No condition. -/
import Derived.Test.YtelplpajpfkfiaaTot
set_option linter.unusedVariables false
namespace Go.Proofs.Ytelplpajpfkfiaa
open Go.RowKit Oct

theorem encT_a : encT [97] = [1, 97] := by
  unfold encT
  rw [if_neg (by simp)]
  show (digs 0 ++ [low7 1]) ++ [97] = _
  rw [digs_zero]
  rfl
theorem errT_a : errT [97] = 0 := rfl
theorem str_a : ((str (encT [97])).toList == [1, 97]) = true := by
  rw [str_toList, encT_a]
  rfl

set_option maxHeartbeats 1000000 in
set_option maxRecDepth 100000 in
theorem octetTexts_walk (w : World) (s : ByteArray) (hs : s.size ≤ 140737488351232) (A : Option Addr) (l : List UInt8) (c : Nat) (hin : In8 w A l c) :
    Calls Try.prog 7 #[.string s, .slice A l.length c] w fun e w' => e = .returned (.bool true) ∧ Below w.heap.size w w' := by
  have hll := hin.le
  have hcap := hin.cap
  go_enter Try.func7, Try.ntmps7
  go_wp2_with fail
  refine (lent_any A l c w hin.rd (by omega)).mono ?_
  rintro e w1 ⟨rfl, hlent, hb1⟩
  go_wp2_with fail
  refine (text_tot s hs _).mono ?_
  rintro e w2 ⟨va, rfl, hova, hb2⟩
  have hsz1 := hlent.lt
  have hlent2 := hlent.below hb2 hsz1
  go_wp2_with fail
  refine (takeText_any _ l _ w2 (hlent2.rd.more (by have := hb2.size; omega)) (by omega) (by omega)).mono ?_
  rintro e w3 ⟨rfl, hb3⟩
  have hlent3 := hlent2.below hb3 (Blk.lt hlent2)
  have hova3 := hova.below hb3 (Nat.le_refl _)
  have hb13 : Below w.heap.size w w3 := hb1.trans ((hb2.mono hb1.size).trans (hb3.mono (by have := hb1.size; have := hb2.size; omega)))
  clear hlent hlent2 hova hb1 hb2 hb3
  go_wp2_with fail
  refine (rtext_tot s hs _).mono ?_
  rintro e w4 ⟨vw, rfl, hovw, hb4⟩
  have hlent4 := hlent3.below hb4 (Blk.lt hlent3)
  have hova4 := hova3.below hb4 (Nat.le_refl _)
  have hb14 : Below w.heap.size w w4 := hb13.trans (hb4.mono hb13.size)
  clear hlent3 hova3 hb13 hb4
  go_wp2_with fail
  refine (rtakeText_any A l c w.heap.size _ (hin.rd.below hb14) (by omega) (by omega)).mono ?_
  rintro e w5 ⟨rfl, rfl⟩
  go_wp2_with fail
  refine (kept_any w.heap.size A l c w.heap.size _ hlent4 (hin.rd.below hb14) (by omega)).mono ?_
  rintro e w5 ⟨rfl, rfl⟩
  obtain ⟨A1, c1, rfl, hc1, _, hr1⟩ := bs_shape hova4
  obtain ⟨A2, c2, rfl, hc2, _, hr2⟩ := bs_shape hovw
  have k1 := str_of c1 hr1
  have k2 := str_of c2 hr2
  have hbs := hb14.size
  go_wp2_with fail
  refine (owned_two _ _ w.heap.size w4 (RowOk.of_own (hova4.mono (by omega))) (RowOk.of_lent hlent4 (Nat.le_refl _) (by omega)) (apart_lent hova4 (by omega)) hbs).mono ?_
  rintro e w5 ⟨rfl, hb45⟩
  have hb15 := hb14.trans hb45
  clear k1 k2 hb14 hb45 hova4 hovw hlent4 hr1 hr2
  go_wp2_with fail
  refine (text_tot ⟨#[97]⟩ (by decide) _).mono ?_
  rintro e w6 ⟨vf, rfl, hovf, hb56⟩
  rw [show (ByteArray.mk #[97]).data.toList = [97] from rfl] at hovf ⊢
  rw [errT_a]
  obtain ⟨A3, c3, rfl, hc3, _, hr3⟩ := bs_shape hovf
  have k3 := str_of c3 hr3
  have hb16 := hb15.trans (hb56.mono hb15.size)
  have h300 := str_a
  clear hb15 hb56 hovf hr3
  go_wp2
  go_ret
  exact ⟨rfl, hb16⟩
end Go.Proofs.Ytelplpajpfkfiaa
