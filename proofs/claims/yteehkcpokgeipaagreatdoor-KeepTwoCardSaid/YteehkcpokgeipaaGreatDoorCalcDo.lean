/- Layer 3: Do, One, and the reference's: what they answer. Condition: the numbers are ints. -/
import Derived.Test.YteehkcpokgeipaaGreatDoorProg
import Derived.Test.YteehkcpokgeipaaGreatDoorCalcPlain
import Derived.WalkKit
import Derived.Laws.BitsAllLaws
import Derived.Lib.Hide
import Derived.Outline
set_option linter.unusedVariables false
namespace Go.Proofs.YteehkcpokgeipaaGreatDoor
open Go.RowKit

theorem ret2c {a a' b b' : Value} (h1 : a = a') (h2 : b = b') : Ending.returned (.tuple #[a, b]) = .returned (.tuple #[a', b']) := by rw [h1, h2]
theorem not_lt (a b : Int) : (!decide (a < b)) = decide (b ≤ a) := by
  by_cases h : a < b
  · rw [decide_eq_true h, decide_eq_false (by omega)]; rfl
  · rw [decide_eq_false h, decide_eq_true (by omega)]; rfl
theorem and_tr (p q : Bool) : bits .and .i64 (tr p) (tr q) = tr (p && q) := by cases p <;> cases q <;> decide +kernel
theorem ofInt_zero (a : Int) (ha : -9223372036854775808 ≤ a ∧ a ≤ 9223372036854775807) : BitVec.ofInt 64 a = 0#64 ↔ a = 0 := by
  constructor
  · intro h
    have := congrArg BitVec.toInt h
    rw [BitVec.toInt_ofInt] at this
    simp [Int.bmod] at this
    omega
  · rintro rfl
    rfl
theorem or_ne (a b : Int) (ha : -9223372036854775808 ≤ a ∧ a ≤ 9223372036854775807) (hb : -9223372036854775808 ≤ b ∧ b ≤ 9223372036854775807) : (bits .or .i64 a b != 0) = (a != 0 || b != 0) := by
  have e : bits .or .i64 a b = wrap64 ((BitVec.ofInt 64 a ||| BitVec.ofInt 64 b).toNat : Int) := by
    show IntKind.i64.wrap _ = _
    rw [IntWalk.i64_left]
    rfl
  have hz : (bits .or .i64 a b = 0) ↔ (a = 0 ∧ b = 0) := by
    rw [e, ← ofInt_zero a ha, ← ofInt_zero b hb]
    have hl := (BitVec.ofInt 64 a ||| BitVec.ofInt 64 b).isLt
    constructor
    · intro h
      have h0 : (BitVec.ofInt 64 a ||| BitVec.ofInt 64 b).toNat = 0 := by
        unfold wrap64 at h
        omega
      have h1 : (BitVec.ofInt 64 a ||| BitVec.ofInt 64 b) = 0#64 := BitVec.eq_of_toNat_eq (by simpa using h0)
      exact BitVec.or_eq_zero_iff.1 h1
    · rintro ⟨h1, h2⟩
      rw [h1, h2]
      decide +kernel
  by_cases h : a = 0 ∧ b = 0
  · rw [hz.2 h, h.1, h.2]; rfl
  · have h1 : bits .or .i64 a b ≠ 0 := fun x => h (hz.1 x)
    have h2 : (bits .or .i64 a b != 0) = true := by simpa using h1
    rw [h2]
    simp
    by_cases h3 : a = 0
    · exact .inr fun x => h ⟨h3, x⟩
    · exact .inl h3
end Go.Proofs.YteehkcpokgeipaaGreatDoor

/- Layer 3: calc.divide, operator by operator. Condition: the numbers are ints. -/
set_option linter.unusedVariables false
namespace Go.Proofs.YteehkcpokgeipaaGreatDoor
open Go.RowKit

end Go.Proofs.YteehkcpokgeipaaGreatDoor

/- Layer 3: calc.Do, operator by operator. Condition: the numbers are ints. -/
set_option linter.unusedVariables false
namespace Go.Proofs.YteehkcpokgeipaaGreatDoor
open Go.RowKit

end Go.Proofs.YteehkcpokgeipaaGreatDoor

/- Layer 3: calc.Do, operator by operator. Condition: the numbers are ints. -/
set_option linter.unusedVariables false
namespace Go.Proofs.YteehkcpokgeipaaGreatDoor
open Go.RowKit

end Go.Proofs.YteehkcpokgeipaaGreatDoor

/- Layer 3: calc.Do, operator by operator. Condition: the numbers are ints. -/
set_option linter.unusedVariables false
namespace Go.Proofs.YteehkcpokgeipaaGreatDoor
open Go.RowKit

end Go.Proofs.YteehkcpokgeipaaGreatDoor

/- Layer 3: calc.Do: what is no operator, operator by operator. Condition: the numbers are ints. -/
set_option linter.unusedVariables false
namespace Go.Proofs.YteehkcpokgeipaaGreatDoor
open Go.RowKit

end Go.Proofs.YteehkcpokgeipaaGreatDoor

/- Layer 3: calc.Do, operator by operator. Condition: the numbers are ints. -/
set_option linter.unusedVariables false
namespace Go.Proofs.YteehkcpokgeipaaGreatDoor
open Go.RowKit

end Go.Proofs.YteehkcpokgeipaaGreatDoor

/- Layer 3: the reference's size and sign, operator by operator. Condition: the numbers are ints. -/
set_option linter.unusedVariables false
namespace Go.Proofs.YteehkcpokgeipaaGreatDoor
open Go.RowKit

theorem ret1 {a a' : Value} (h : a = a') : Ending.returned a = .returned a' := by rw [h]
theorem wrap_u64 (x : Int) : wrap64 (IntKind.u64.wrap x) = wrap64 x := by
  rw [show IntKind.u64.wrap x = x % 18446744073709551616 by simp [IntKind.wrap, IntKind.bits, IntKind.signed], wrap_emod]
theorem size_any (n : Int) (hn : -9223372036854775808 ≤ n ∧ n ≤ 9223372036854775807) (w : World) :
    Calls Tryz.prog 156 #[.int .i64 n] w fun e w' => e = .returned (.int .u64 (n.natAbs : Nat)) ∧ w = w' := by
  by_cases h : n < 0
  · obtain ⟨m, hm⟩ : ∃ m : Nat, m = n.natAbs := ⟨_, rfl⟩
    rw [← hm]
    have hm0 : 1 ≤ m := by omega
    have hm1 : m ≤ 9223372036854775808 := by omega
    obtain rfl : n = -(m : Int) := by omega
    have HM : Hid ((-(-(m : Int) + 1)) + 1 = (m : Int)) := Lib.hid (by omega)
    clear hn h hm
    have hmI : (1 : Int) ≤ m := by omega
    have hmJ : (m : Int) ≤ 9223372036854775808 := by omega
    go_enter Tryz.func156, Tryz.ntmps156
    go_wp2
    go_ret
    exact ⟨ret1 (congrArg (Value.int .u64) HM.out), rfl⟩
  · obtain ⟨m, rfl⟩ := Int.eq_ofNat_of_zero_le (show 0 ≤ n by omega)
    have hm1 : m ≤ 9223372036854775807 := by omega
    clear hn h
    rw [Int.natAbs_natCast]
    go_enter Tryz.func156, Tryz.ntmps156
    go_wp2
    go_ret
    exact ⟨rfl, rfl⟩
end Go.Proofs.YteehkcpokgeipaaGreatDoor

/- Layer 3: the reference's sign, operator by operator. Condition: the numbers are ints. -/
set_option linter.unusedVariables false
namespace Go.Proofs.YteehkcpokgeipaaGreatDoor
open Go.RowKit

/-- A distance from 0, its sign put on. -/
def dv4 (a b : Int) : Int := if b = -1 then wrap64 (-a) else a.tdiv b
def dv5 (a b : Int) : Int := if b = -1 then 0 else a.tmod b
def sg (p : Bool) (u : Nat) : Int := wrap64 (if p = true then -(u : Int) else u)
theorem mul_ref (a b : Int) : sg (decide (a < 0) != decide (b < 0)) (a.natAbs * b.natAbs % 18446744073709551616) = wrap64 (a * b) := by
  unfold sg
  rw [mul_words a b]
  generalize a.natAbs * b.natAbs = m
  refine wrap_of_emod ?_
  split <;> omega
theorem add_ref (a b : Int) : wrap64 (IntKind.u64.wrap (IntKind.u64.wrap a + IntKind.u64.wrap b)) = wrap64 (a + b) := by
  rw [wrap_u64]
  refine wrap_of_emod ?_
  simp [IntKind.wrap, IntKind.bits, IntKind.signed]
theorem sub_ref (a b : Int) : wrap64 (IntKind.u64.wrap (IntKind.u64.wrap a - IntKind.u64.wrap b)) = wrap64 (a - b) := by
  rw [wrap_u64]
  refine wrap_of_emod ?_
  rw [show ∀ x, IntKind.u64.wrap x = x % 18446744073709551616 from fun x => by simp [IntKind.wrap, IntKind.bits, IntKind.signed], show IntKind.u64.wrap b = b % 18446744073709551616 by simp [IntKind.wrap, IntKind.bits, IntKind.signed]]
  omega
theorem u64_nat (n : Nat) : IntKind.u64.wrap (n : Int) = ((n % 18446744073709551616 : Nat) : Int) := by
  simp [IntKind.wrap, IntKind.bits, IntKind.signed]
theorem div_ref (a b : Int) (ha : -9223372036854775808 ≤ a ∧ a ≤ 9223372036854775807) (hb : b ≠ 0) : sg (decide (a < 0) != decide (b < 0)) (a.natAbs / b.natAbs) = dv4 a b := by
  unfold sg dv4
  rw [← tdiv_words a b]
  by_cases h : b = -1
  · subst h
    rw [if_pos rfl, Int.tdiv_neg, Int.tdiv_one]
  · rw [if_neg h]
    exact IntWalk.wrap64_in _ (tdiv_range a b ha h)
theorem mod_ref (a b : Int) (ha : -9223372036854775808 ≤ a ∧ a ≤ 9223372036854775807) (hb : b ≠ 0) : sg (decide (a < 0)) (a.natAbs % b.natAbs) = dv5 a b := by
  unfold sg dv5
  rw [← tmod_words a b]
  rw [IntWalk.wrap64_in _ (tmod_range a b ha)]
  by_cases h : b = -1
  · subst h
    rw [if_pos rfl, Int.tmod_neg, Int.tmod_one]
  · rw [if_neg h]
end Go.Proofs.YteehkcpokgeipaaGreatDoor
