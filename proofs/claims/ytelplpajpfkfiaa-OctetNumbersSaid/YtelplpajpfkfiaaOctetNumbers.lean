/- How numbers stand in bytes, and which one bytes begin with: the walk of the statement. No condition. -/
import Derived.Test.YtelplpajpfkfiaaTot
import Derived.Deep.RegionWith
set_option linter.unusedVariables false
namespace Go.Proofs.Ytelplpajpfkfiaa
open Go.RowKit Oct

theorem str_m1 : ((str (enc (fold1 (-1)))).toList == [1]) = true := by
  rw [str_toList]
  have h : enc (fold1 (-1)) = [1] := by
    show digs 0 ++ [low7 1] = _
    rw [digs_zero]
    rfl
  rw [h]
  rfl

set_option maxHeartbeats 1000000 in
set_option maxRecDepth 100000 in
theorem octetNumbers_walk (w : World) (n : Int) (hn : -9223372036854775808 ≤ n ∧ n ≤ 9223372036854775807) (A : Option Addr) (l : List UInt8) (c : Nat) (hin : In8 w A l c) :
    Calls Try.prog 6 #[.int .i64 n, .slice A l.length c] w fun e w' => e = .returned (.bool true) ∧ Below w.heap.size w w' := by
  have hll := hin.le
  have hcap := hin.cap
  have HN := Lib.hid hn
  clear hn
  go_enter Try.func6, Try.ntmps6
  go_wp2_with fail
  refine (lent_any A l c w hin.rd (by omega)).mono ?_
  rintro e w1 ⟨rfl, hlent, hb1⟩
  go_wp2_with fail
  refine (int_any n HN.out _).mono ?_
  rintro e w2 ⟨va, rfl, hova, hb2⟩
  have hsz1 := hlent.lt
  have hlent2 := hlent.below hb2 hsz1
  go_wp2_with fail
  refine (takeInt_any _ l _ w2 (hlent2.rd.more (by have := hb2.size; omega)) (by omega)).mono ?_
  rintro e w3 ⟨rfl, hb3⟩
  have hlent3 := hlent2.below hb3 (Blk.lt hlent2)
  have hova3 := hova.below hb3 (Nat.le_refl _)
  have hb13 : Below w.heap.size w w3 := hb1.trans ((hb2.mono hb1.size).trans (hb3.mono (by have := hb1.size; have := hb2.size; omega)))
  clear hlent hlent2 hova hb1 hb2 hb3
  go_wp2_with fail
  refine (rtakeInt_any A l _ c w.heap.size rfl _ (hin.rd.below hb13) (by omega)).mono ?_
  rintro e w5 ⟨rfl, rfl⟩
  go_wp2_with fail
  refine (kept_any w.heap.size A l c w.heap.size _ hlent3 (hin.rd.below hb13) (by omega)).mono ?_
  rintro e w5 ⟨rfl, rfl⟩
  obtain ⟨A1, c1, rfl, hc1, _, hr1⟩ := bs_shape hova3
  have k1 : (convert 22 9 (.slice A1 (enc (fold1 n)).length c1)).run Try.prog w3.drew = .ok (.string (str (enc (fold1 n)))) w3.drew := str_of (w := w3.drew) c1 (hr1.drewN 1)
  have hr1d : Rd w3.drew w3.drew.heap.size A1 (cells (enc (fold1 n))) := hr1.drewN 1
  go_wp2_with fail
  go_region_with (first | (go_at_call 31; refine (rint_any n HN.out _).mono ?_; rintro e w6 ⟨vw, rfl, hovw, hb6⟩; obtain ⟨A2, c2, rfl, hc2, _, hr2⟩ := bs_shape hovw; have k2 := str_of c2 hr2; have k3 := str_of c1 (hr1d.below hb6)))
  all_goals
    have hlent6 := (show LentAt w3.drew w.heap.size l from hlent3).below hb6 (Blk.lt hlent3)
    have hova6 := (show Bs w3.drew w1.heap.size _ (enc (fold1 n)) from hova3).below hb6 (Nat.le_refl _)
    have hb16 : Below w.heap.size w w6 := hb13.drew.trans (hb6.mono hb13.size)
    have hbs := hb16.size
    clear k1 k2 k3 hr1 hr1d hr2 hovw hb6 hb13 hlent3 hova3
    go_wp2_with fail
    refine (owned_two _ _ w.heap.size w6 (RowOk.of_own (hova6.mono (by omega))) (RowOk.of_lent hlent6 (Nat.le_refl _) (by omega)) (apart_lent hova6 (by omega)) hbs).mono ?_
    rintro e w7 ⟨rfl, hb67⟩
    have hb17 := hb16.trans hb67
    clear hb16 hb67 hova6 hlent6
    go_wp2_with fail
    refine (int_any (-1) (by omega) _).mono ?_
    rintro e w8 ⟨vf, rfl, hovf, hb78⟩
    obtain ⟨A3, c3, rfl, hc3, _, hr3⟩ := bs_shape hovf
    have k5 := str_of c3 hr3
    have hb18 := hb17.trans (hb78.mono hb17.size)
    have h300 := str_m1
    clear hb17 hb78 hovf hr3
    go_wp2
    go_ret
    exact ⟨rfl, hb18⟩
end Go.Proofs.Ytelplpajpfkfiaa
