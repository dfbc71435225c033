/- Layer 3: the reference's sign, operator by operator. Condition: the numbers are ints. -/
import Derived.Test.YtboigomnjfflhaaDoorCalcSize
set_option linter.unusedVariables false
namespace Go.Proofs.YtboigomnjfflhaaDoor
open Go.RowKit

/-- A distance from 0, its sign put on. -/
def dv4 (a b : Int) : Int := if b = -1 then wrap64 (-a) else a.tdiv b
def dv5 (a b : Int) : Int := if b = -1 then 0 else a.tmod b
def sg (p : Bool) (u : Nat) : Int := wrap64 (if p = true then -(u : Int) else u)
theorem sgn_any (U : Int) (u : Nat) (hU : U = (u : Int)) (hu : u < 18446744073709551616) (p : Bool) (w : World) :
    Calls Tryd.prog 22 #[.int .u64 U, .bool p] w fun e w' => e = .returned (.int .i64 (sg p u)) ∧ w = w' := by
  subst hU
  cases p
  · exact signed_pos u hu w
  · exact signed_neg u hu w
theorem mul_ref (a b : Int) : sg (decide (a < 0) != decide (b < 0)) (a.natAbs * b.natAbs % 18446744073709551616) = wrap64 (a * b) := by
  unfold sg
  rw [mul_words a b]
  generalize a.natAbs * b.natAbs = m
  refine wrap_of_emod ?_
  split <;> omega
theorem add_ref (a b : Int) : wrap64 (IntKind.u64.wrap (IntKind.u64.wrap a + IntKind.u64.wrap b)) = wrap64 (a + b) := by
  rw [wrap_u64]
  refine wrap_of_emod ?_
  simp [IntKind.wrap, IntKind.bits, IntKind.signed]
theorem sub_ref (a b : Int) : wrap64 (IntKind.u64.wrap (IntKind.u64.wrap a - IntKind.u64.wrap b)) = wrap64 (a - b) := by
  rw [wrap_u64]
  refine wrap_of_emod ?_
  rw [show ∀ x, IntKind.u64.wrap x = x % 18446744073709551616 from fun x => by simp [IntKind.wrap, IntKind.bits, IntKind.signed], show IntKind.u64.wrap b = b % 18446744073709551616 by simp [IntKind.wrap, IntKind.bits, IntKind.signed]]
  omega
theorem u64_nat (n : Nat) : IntKind.u64.wrap (n : Int) = ((n % 18446744073709551616 : Nat) : Int) := by
  simp [IntKind.wrap, IntKind.bits, IntKind.signed]
theorem div_ref (a b : Int) (ha : -9223372036854775808 ≤ a ∧ a ≤ 9223372036854775807) (hb : b ≠ 0) : sg (decide (a < 0) != decide (b < 0)) (a.natAbs / b.natAbs) = dv4 a b := by
  unfold sg dv4
  rw [← tdiv_words a b]
  by_cases h : b = -1
  · subst h
    rw [if_pos rfl, Int.tdiv_neg, Int.tdiv_one]
  · rw [if_neg h]
    exact IntWalk.wrap64_in _ (tdiv_range a b ha h)
theorem mod_ref (a b : Int) (ha : -9223372036854775808 ≤ a ∧ a ≤ 9223372036854775807) (hb : b ≠ 0) : sg (decide (a < 0)) (a.natAbs % b.natAbs) = dv5 a b := by
  unfold sg dv5
  rw [← tmod_words a b]
  rw [IntWalk.wrap64_in _ (tmod_range a b ha)]
  by_cases h : b = -1
  · subst h
    rw [if_pos rfl, Int.tmod_neg, Int.tmod_one]
  · rw [if_neg h]
end Go.Proofs.YtboigomnjfflhaaDoor
