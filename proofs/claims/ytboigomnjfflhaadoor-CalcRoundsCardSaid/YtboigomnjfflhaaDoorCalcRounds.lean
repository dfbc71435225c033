/- Sums and products in any order: the walk of the statement. Condition: the table of powers of ten lies as the program's text lays it. -/
import Derived.Test.YtboigomnjfflhaaDoorCalcSmall
import Derived.Test.YtboigomnjfflhaaDoorRows
import Derived.Lib.LaidTab
import Derived.Stop.LaidErr
import Derived.Test.YtboigomnjfflhaaDoorCalcDoN
set_option linter.unusedVariables false
namespace Go.Proofs.YtboigomnjfflhaaDoor
open Go.RowKit

theorem calcRounds_facts (W : World) (h : laidMet Tryd.prog Rows.calcRoundsRow.laid W) : Tab W :=
  Lib.tabIs_of_head (g := 2) (n := 20) (t := 70) (e := 36) (by kernel_rfl) (by kernel_rfl) Tryd.underlying70 Tryd.underlying36 (by kernel_rfl) (by kernel_rfl) (laidMet.tail (laidMet.tail h))

set_option maxHeartbeats 1000000 in
set_option maxRecDepth 100000 in
theorem calcRounds_walk (w : World) (ht : Tab w) (a : Int) (ha : -9223372036854775808 ≤ a ∧ a ≤ 9223372036854775807) (b : Int) (hb0 : -9223372036854775808 ≤ b ∧ b ≤ 9223372036854775807) (c : Int) (hc : -9223372036854775808 ≤ c ∧ c ≤ 9223372036854775807) :
    Calls Tryd.prog 4 #[.int .i64 a, .int .i64 b, .int .i64 c] w fun e w' => e = .returned (.bool true) ∧ Below w.heap.size w w' := by
  have e1 : (calcDo 1 a b).1 = wrap64 (a + b) := by simp [calcDo]
  obtain ⟨S1, hS1⟩ : ∃ x, x = wrap64 (a + b) := ⟨_, rfl⟩
  obtain ⟨S2, hS2⟩ : ∃ x, x = wrap64 (a + b + c) := ⟨_, rfl⟩
  obtain ⟨S3, hS3⟩ : ∃ x, x = wrap64 (c + b) := ⟨_, rfl⟩
  obtain ⟨S4, hS4⟩ : ∃ x, x = wrap64 (b + c) := ⟨_, rfl⟩
  obtain ⟨P1, hP1⟩ : ∃ x, x = wrap64 (a * b) := ⟨_, rfl⟩
  obtain ⟨P2, hP2⟩ : ∃ x, x = wrap64 (a * b * c) := ⟨_, rfl⟩
  obtain ⟨P3, hP3⟩ : ∃ x, x = wrap64 (c * b) := ⟨_, rfl⟩
  obtain ⟨P4, hP4⟩ : ∃ x, x = wrap64 (a * c) := ⟨_, rfl⟩
  obtain ⟨Q, hQ⟩ : ∃ x, x = wrap64 (a * (b + c)) := ⟨_, rfl⟩
  have hS1r : -9223372036854775808 ≤ S1 ∧ S1 ≤ 9223372036854775807 := by rw [hS1]; exact wrap_range _
  have hS2r : -9223372036854775808 ≤ S2 ∧ S2 ≤ 9223372036854775807 := by rw [hS2]; exact wrap_range _
  have hS3r : -9223372036854775808 ≤ S3 ∧ S3 ≤ 9223372036854775807 := by rw [hS3]; exact wrap_range _
  have hS4r : -9223372036854775808 ≤ S4 ∧ S4 ≤ 9223372036854775807 := by rw [hS4]; exact wrap_range _
  have hP1r : -9223372036854775808 ≤ P1 ∧ P1 ≤ 9223372036854775807 := by rw [hP1]; exact wrap_range _
  have hP2r : -9223372036854775808 ≤ P2 ∧ P2 ≤ 9223372036854775807 := by rw [hP2]; exact wrap_range _
  have hP3r : -9223372036854775808 ≤ P3 ∧ P3 ≤ 9223372036854775807 := by rw [hP3]; exact wrap_range _
  have hP4r : -9223372036854775808 ≤ P4 ∧ P4 ≤ 9223372036854775807 := by rw [hP4]; exact wrap_range _
  have hQr : -9223372036854775808 ≤ Q ∧ Q ≤ 9223372036854775807 := by rw [hQ]; exact wrap_range _
  have E0 : Hid ((calcDo 1 a b).1 = S1) := Lib.hid (by simp [calcDo, hS1])
  have E1 : Hid ((calcDo 1 S1 c).1 = S2) := Lib.hid (by simp [calcDo, hS1, hS2, add_wrap])
  have E2 : Hid ((calcDo 1 c b).1 = S3) := Lib.hid (by simp [calcDo, hS3])
  have E3 : Hid ((calcDo 1 a S3).1 = S2) := Lib.hid (by simp [calcDo, hS3, hS2, wrap_add]; congr 1; omega)
  have E4 : Hid ((calcDo 3 a b).1 = P1) := Lib.hid (by simp [calcDo, hP1])
  have E5 : Hid ((calcDo 3 P1 c).1 = P2) := Lib.hid (by simp [calcDo, hP1, hP2, mul_wrap])
  have E6 : Hid ((calcDo 3 c b).1 = P3) := Lib.hid (by simp [calcDo, hP3])
  have E7 : Hid ((calcDo 3 a P3).1 = P2) := Lib.hid (by simp [calcDo, hP3, hP2, wrap_mul]; rw [Int.mul_assoc, Int.mul_comm c b])
  have E8 : Hid ((calcDo 1 b c).1 = S4) := Lib.hid (by simp [calcDo, hS4])
  have E9 : Hid ((calcDo 3 a S4).1 = Q) := Lib.hid (by simp [calcDo, hS4, hQ, wrap_mul])
  have E10 : Hid ((calcDo 3 a b).1 = P1) := Lib.hid (by simp [calcDo, hP1])
  have E11 : Hid ((calcDo 3 a c).1 = P4) := Lib.hid (by simp [calcDo, hP4])
  have E12 : Hid ((calcDo 1 P1 P4).1 = Q) := Lib.hid (by simp [calcDo, hP1, hP4, hQ, add_wrap, wrap_add, Int.mul_add])
  have E13 : Hid ((calcDo 1 a b).1 = S1) := Lib.hid (by simp [calcDo, hS1])
  have E14 : Hid ((calcDo 2 S1 b).1 = a) := Lib.hid (by simp [calcDo, hS1, wrap_sub]; exact IntWalk.wrap64_in _ ha)
  clear e1 hS1 hS2 hS3 hS4 hP1 hP2 hP3 hP4 hQ
  go_enter Tryd.func4, Tryd.ntmps4
  go_wp2_with fail
  refine (small_any w ht).mono ?_
  rintro e w1 ⟨rfl, hb⟩
  go_wp2_with fail
  refine (doN_any 1 a b ha hb0 S1 E0.out w1).mono ?_
  rintro e w2 ⟨rfl, rfl⟩
  go_wp2_with fail
  refine (doN_any 1 S1 c hS1r hc S2 E1.out w1).mono ?_
  rintro e w2 ⟨rfl, rfl⟩
  go_wp2_with fail
  refine (doN_any 1 c b hc hb0 S3 E2.out w1).mono ?_
  rintro e w2 ⟨rfl, rfl⟩
  go_wp2_with fail
  refine (doN_any 1 a S3 ha hS3r S2 E3.out w1).mono ?_
  rintro e w2 ⟨rfl, rfl⟩
  go_wp2_with fail
  refine (doN_any 3 a b ha hb0 P1 E4.out w1).mono ?_
  rintro e w2 ⟨rfl, rfl⟩
  go_wp2_with fail
  refine (doN_any 3 P1 c hP1r hc P2 E5.out w1).mono ?_
  rintro e w2 ⟨rfl, rfl⟩
  go_wp2_with fail
  refine (doN_any 3 c b hc hb0 P3 E6.out w1).mono ?_
  rintro e w2 ⟨rfl, rfl⟩
  go_wp2_with fail
  refine (doN_any 3 a P3 ha hP3r P2 E7.out w1).mono ?_
  rintro e w2 ⟨rfl, rfl⟩
  go_wp2_with fail
  refine (doN_any 1 b c hb0 hc S4 E8.out w1).mono ?_
  rintro e w2 ⟨rfl, rfl⟩
  go_wp2_with fail
  refine (doN_any 3 a S4 ha hS4r Q E9.out w1).mono ?_
  rintro e w2 ⟨rfl, rfl⟩
  go_wp2_with fail
  refine (doN_any 3 a b ha hb0 P1 E10.out w1).mono ?_
  rintro e w2 ⟨rfl, rfl⟩
  go_wp2_with fail
  refine (doN_any 3 a c ha hc P4 E11.out w1).mono ?_
  rintro e w2 ⟨rfl, rfl⟩
  go_wp2_with fail
  refine (doN_any 1 P1 P4 hP1r hP4r Q E12.out w1).mono ?_
  rintro e w2 ⟨rfl, rfl⟩
  go_wp2_with fail
  refine (doN_any 1 a b ha hb0 S1 E13.out w1).mono ?_
  rintro e w2 ⟨rfl, rfl⟩
  go_wp2_with fail
  refine (doN_any 2 S1 b hS1r hb0 a E14.out w1).mono ?_
  rintro e w2 ⟨rfl, rfl⟩
  go_wp2
  go_ret
  exact ⟨rfl, hb⟩
end Go.Proofs.YtboigomnjfflhaaDoor
