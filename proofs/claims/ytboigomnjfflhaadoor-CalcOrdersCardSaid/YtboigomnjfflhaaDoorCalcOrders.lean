/- Below, as great, above: the walk of the statement. Condition: the table of powers of ten lies as the program's text lays it. -/
import Derived.Test.YtboigomnjfflhaaDoorCalcSmall
import Derived.Test.YtboigomnjfflhaaDoorRows
import Derived.Lib.LaidTab
import Derived.Stop.LaidErr
import Derived.Test.YtboigomnjfflhaaDoorCalcDoN
set_option linter.unusedVariables false
namespace Go.Proofs.YtboigomnjfflhaaDoor
open Go.RowKit

theorem calcOrders_facts (W : World) (h : laidMet Tryd.prog Rows.calcOrdersRow.laid W) : Tab W :=
  Lib.tabIs_of_head (g := 2) (n := 20) (t := 70) (e := 36) (by kernel_rfl) (by kernel_rfl) Tryd.underlying70 Tryd.underlying36 (by kernel_rfl) (by kernel_rfl) (laidMet.tail (laidMet.tail h))

set_option maxHeartbeats 1000000 in
set_option maxRecDepth 100000 in
theorem calcOrders_walk (w : World) (ht : Tab w) (a : Int) (ha : -9223372036854775808 ≤ a ∧ a ≤ 9223372036854775807) (b : Int) (hb0 : -9223372036854775808 ≤ b ∧ b ≤ 9223372036854775807) :
    Calls Tryd.prog 5 #[.int .i64 a, .int .i64 b] w fun e w' => e = .returned (.bool true) ∧ Below w.heap.size w w' := by
  rcases Int.lt_trichotomy a b with h | h | h
  · have E0 : Hid ((calcDo 6 a b).1 = 1) := Lib.hid (by simp [calcDo, tr]; omega)
    have E1 : Hid ((calcDo 10 a b).1 = 0) := Lib.hid (by simp [calcDo, tr]; omega)
    have E2 : Hid ((calcDo 8 a b).1 = 0) := Lib.hid (by simp [calcDo, tr]; omega)
    have E3 : Hid ((calcDo 7 a b).1 = 1) := Lib.hid (by simp [calcDo, tr]; omega)
    have E4 : Hid ((calcDo 9 a b).1 = 0) := Lib.hid (by simp [calcDo, tr]; omega)
    have E5 : Hid ((calcDo 11 a b).1 = 1) := Lib.hid (by simp [calcDo, tr]; omega)
    have E6 : Hid ((calcDo 8 b a).1 = 1) := Lib.hid (by simp [calcDo, tr]; omega)
    clear h
    go_enter Tryd.func5, Tryd.ntmps5
    go_wp2_with fail
    refine (small_any w ht).mono ?_
    rintro e w1 ⟨rfl, hb⟩
    go_wp2_with fail
    refine (doN_any 6 a b ha hb0 1 E0.out w1).mono ?_
    rintro e w2 ⟨rfl, rfl⟩
    go_wp2_with fail
    refine (doN_any 10 a b ha hb0 0 E1.out w1).mono ?_
    rintro e w2 ⟨rfl, rfl⟩
    go_wp2_with fail
    refine (doN_any 8 a b ha hb0 0 E2.out w1).mono ?_
    rintro e w2 ⟨rfl, rfl⟩
    go_wp2_with fail
    refine (doN_any 7 a b ha hb0 1 E3.out w1).mono ?_
    rintro e w2 ⟨rfl, rfl⟩
    go_wp2_with fail
    refine (doN_any 9 a b ha hb0 0 E4.out w1).mono ?_
    rintro e w2 ⟨rfl, rfl⟩
    go_wp2_with fail
    refine (doN_any 11 a b ha hb0 1 E5.out w1).mono ?_
    rintro e w2 ⟨rfl, rfl⟩
    go_wp2_with fail
    refine (doN_any 8 b a hb0 ha 1 E6.out w1).mono ?_
    rintro e w2 ⟨rfl, rfl⟩
    go_wp2
    go_ret
    exact ⟨rfl, hb⟩
  · have E0 : Hid ((calcDo 6 a b).1 = 0) := Lib.hid (by simp [calcDo, tr]; omega)
    have E1 : Hid ((calcDo 10 a b).1 = 1) := Lib.hid (by simp [calcDo, tr]; omega)
    have E2 : Hid ((calcDo 8 a b).1 = 0) := Lib.hid (by simp [calcDo, tr]; omega)
    have E3 : Hid ((calcDo 7 a b).1 = 1) := Lib.hid (by simp [calcDo, tr]; omega)
    have E4 : Hid ((calcDo 9 a b).1 = 1) := Lib.hid (by simp [calcDo, tr]; omega)
    have E5 : Hid ((calcDo 11 a b).1 = 0) := Lib.hid (by simp [calcDo, tr]; omega)
    have E6 : Hid ((calcDo 8 b a).1 = 0) := Lib.hid (by simp [calcDo, tr]; omega)
    clear h
    go_enter Tryd.func5, Tryd.ntmps5
    go_wp2_with fail
    refine (small_any w ht).mono ?_
    rintro e w1 ⟨rfl, hb⟩
    go_wp2_with fail
    refine (doN_any 6 a b ha hb0 0 E0.out w1).mono ?_
    rintro e w2 ⟨rfl, rfl⟩
    go_wp2_with fail
    refine (doN_any 10 a b ha hb0 1 E1.out w1).mono ?_
    rintro e w2 ⟨rfl, rfl⟩
    go_wp2_with fail
    refine (doN_any 8 a b ha hb0 0 E2.out w1).mono ?_
    rintro e w2 ⟨rfl, rfl⟩
    go_wp2_with fail
    refine (doN_any 7 a b ha hb0 1 E3.out w1).mono ?_
    rintro e w2 ⟨rfl, rfl⟩
    go_wp2_with fail
    refine (doN_any 9 a b ha hb0 1 E4.out w1).mono ?_
    rintro e w2 ⟨rfl, rfl⟩
    go_wp2_with fail
    refine (doN_any 11 a b ha hb0 0 E5.out w1).mono ?_
    rintro e w2 ⟨rfl, rfl⟩
    go_wp2_with fail
    refine (doN_any 8 b a hb0 ha 0 E6.out w1).mono ?_
    rintro e w2 ⟨rfl, rfl⟩
    go_wp2
    go_ret
    exact ⟨rfl, hb⟩
  · have E0 : Hid ((calcDo 6 a b).1 = 0) := Lib.hid (by simp [calcDo, tr]; omega)
    have E1 : Hid ((calcDo 10 a b).1 = 0) := Lib.hid (by simp [calcDo, tr]; omega)
    have E2 : Hid ((calcDo 8 a b).1 = 1) := Lib.hid (by simp [calcDo, tr]; omega)
    have E3 : Hid ((calcDo 7 a b).1 = 0) := Lib.hid (by simp [calcDo, tr]; omega)
    have E4 : Hid ((calcDo 9 a b).1 = 1) := Lib.hid (by simp [calcDo, tr]; omega)
    have E5 : Hid ((calcDo 11 a b).1 = 1) := Lib.hid (by simp [calcDo, tr]; omega)
    have E6 : Hid ((calcDo 8 b a).1 = 0) := Lib.hid (by simp [calcDo, tr]; omega)
    clear h
    go_enter Tryd.func5, Tryd.ntmps5
    go_wp2_with fail
    refine (small_any w ht).mono ?_
    rintro e w1 ⟨rfl, hb⟩
    go_wp2_with fail
    refine (doN_any 6 a b ha hb0 0 E0.out w1).mono ?_
    rintro e w2 ⟨rfl, rfl⟩
    go_wp2_with fail
    refine (doN_any 10 a b ha hb0 0 E1.out w1).mono ?_
    rintro e w2 ⟨rfl, rfl⟩
    go_wp2_with fail
    refine (doN_any 8 a b ha hb0 1 E2.out w1).mono ?_
    rintro e w2 ⟨rfl, rfl⟩
    go_wp2_with fail
    refine (doN_any 7 a b ha hb0 0 E3.out w1).mono ?_
    rintro e w2 ⟨rfl, rfl⟩
    go_wp2_with fail
    refine (doN_any 9 a b ha hb0 1 E4.out w1).mono ?_
    rintro e w2 ⟨rfl, rfl⟩
    go_wp2_with fail
    refine (doN_any 11 a b ha hb0 1 E5.out w1).mono ?_
    rintro e w2 ⟨rfl, rfl⟩
    go_wp2_with fail
    refine (doN_any 8 b a hb0 ha 0 E6.out w1).mono ?_
    rintro e w2 ⟨rfl, rfl⟩
    go_wp2
    go_ret
    exact ⟨rfl, hb⟩
end Go.Proofs.YtboigomnjfflhaaDoor
