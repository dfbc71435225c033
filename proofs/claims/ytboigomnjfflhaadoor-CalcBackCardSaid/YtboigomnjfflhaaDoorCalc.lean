/- Layer 3: Do, One, and the reference's: what they answer. Condition: the numbers are ints. -/
import Derived.Test.YtboigomnjfflhaaDoorProg
import Derived.Test.YtboigomnjfflhaaDoorCalcPlain
import Derived.WalkKit
import Derived.Laws.BitsAllLaws
import Derived.Lib.Hide
import Derived.Outline
set_option linter.unusedVariables false
namespace Go.Proofs.YtboigomnjfflhaaDoor
open Go.RowKit

theorem truth_any (p : Bool) (w : World) : Calls Tryd.prog 20 #[.bool p] w fun e w' => e = .returned (.int .i64 (tr p)) ∧ w = w' := by
  cases p
  all_goals
    go_enter Tryd.func20, Tryd.ntmps20
    go_wp2
    go_ret
    exact ⟨rfl, rfl⟩
theorem rtruth_any (p : Bool) (w : World) : Calls Tryd.prog 24 #[.bool p] w fun e w' => e = .returned (.int .i64 (tr p)) ∧ w = w' := by
  cases p
  all_goals
    go_enter Tryd.func24, Tryd.ntmps24
    go_wp2
    go_ret
    exact ⟨rfl, rfl⟩
theorem turned_any (p : Bool) (w : World) : Calls Tryd.prog 21 #[.int .i64 (tr p)] w fun e w' => e = .returned (.int .i64 (tr (!p))) ∧ w = w' := by
  cases p
  all_goals
    unfold tr
    simp only [Bool.not_false, Bool.not_true, if_true, Bool.false_eq_true, if_false]
    go_enter Tryd.func21, Tryd.ntmps21
    go_wp2
    go_ret
    exact ⟨rfl, rfl⟩

theorem ret2 {a a' b b' : Value} (h1 : a = a') (h2 : b = b') : Ending.returned (.tuple #[a, b]) = .returned (.tuple #[a', b']) := by rw [h1, h2]
theorem not_lt (a b : Int) : (!decide (a < b)) = decide (b ≤ a) := by
  by_cases h : a < b
  · rw [decide_eq_true h, decide_eq_false (by omega)]; rfl
  · rw [decide_eq_false h, decide_eq_true (by omega)]; rfl
theorem and_tr (p q : Bool) : bits .and .i64 (tr p) (tr q) = tr (p && q) := by cases p <;> cases q <;> decide +kernel
theorem ofInt_zero (a : Int) (ha : -9223372036854775808 ≤ a ∧ a ≤ 9223372036854775807) : BitVec.ofInt 64 a = 0#64 ↔ a = 0 := by
  constructor
  · intro h
    have := congrArg BitVec.toInt h
    rw [BitVec.toInt_ofInt] at this
    simp [Int.bmod] at this
    omega
  · rintro rfl
    rfl
theorem or_ne (a b : Int) (ha : -9223372036854775808 ≤ a ∧ a ≤ 9223372036854775807) (hb : -9223372036854775808 ≤ b ∧ b ≤ 9223372036854775807) : (bits .or .i64 a b != 0) = (a != 0 || b != 0) := by
  have e : bits .or .i64 a b = wrap64 ((BitVec.ofInt 64 a ||| BitVec.ofInt 64 b).toNat : Int) := by
    show IntKind.i64.wrap _ = _
    rw [IntWalk.i64_left]
    rfl
  have hz : (bits .or .i64 a b = 0) ↔ (a = 0 ∧ b = 0) := by
    rw [e, ← ofInt_zero a ha, ← ofInt_zero b hb]
    have hl := (BitVec.ofInt 64 a ||| BitVec.ofInt 64 b).isLt
    constructor
    · intro h
      have h0 : (BitVec.ofInt 64 a ||| BitVec.ofInt 64 b).toNat = 0 := by
        unfold wrap64 at h
        omega
      have h1 : (BitVec.ofInt 64 a ||| BitVec.ofInt 64 b) = 0#64 := BitVec.eq_of_toNat_eq (by simpa using h0)
      exact BitVec.or_eq_zero_iff.1 h1
    · rintro ⟨h1, h2⟩
      rw [h1, h2]
      decide +kernel
  by_cases h : a = 0 ∧ b = 0
  · rw [hz.2 h, h.1, h.2]; rfl
  · have h1 : bits .or .i64 a b ≠ 0 := fun x => h (hz.1 x)
    have h2 : (bits .or .i64 a b != 0) = true := by simpa using h1
    rw [h2]
    simp
    by_cases h3 : a = 0
    · exact .inr fun x => h ⟨h3, x⟩
    · exact .inl h3
end Go.Proofs.YtboigomnjfflhaaDoor
