/- What layer 3 reckons, in plain words: numbers of 64 bits that go round. No condition. -/
import Derived.IntWalk
set_option linter.unusedVariables false
namespace Go.Proofs.YtboigomnjfflhaaDoor
open Go.RowKit

def tr (p : Bool) : Int := if p then 1 else 0
/-- What comes of an operator and two numbers. -/
def calcDo (op a b : Int) : Int × Int :=
  if op = 1 then (wrap64 (a + b), 0)
  else if op = 2 then (wrap64 (a - b), 0)
  else if op = 3 then (wrap64 (a * b), 0)
  else if op = 4 then (if b = 0 then (0, 10) else if b = -1 then (wrap64 (-a), 0) else (a.tdiv b, 0))
  else if op = 5 then (if b = 0 then (0, 10) else if b = -1 then (0, 0) else (a.tmod b, 0))
  else if op = 6 then (tr (decide (a < b)), 0)
  else if op = 7 then (tr (decide (a ≤ b)), 0)
  else if op = 8 then (tr (decide (b < a)), 0)
  else if op = 9 then (tr (decide (b ≤ a)), 0)
  else if op = 10 then (tr (a == b), 0)
  else if op = 11 then (tr (a != b), 0)
  else if op = 12 then (tr (a != 0 && b != 0), 0)
  else if op = 13 then (tr (a != 0 || b != 0), 0)
  else (0, 11)
/-- What comes of an operator and one number. -/
def calcOne (op a : Int) : Int × Int :=
  if op = 14 then (wrap64 (-a), 0)
  else if op = 15 then (tr (a == 0), 0)
  else (0, 11)

theorem wrap_range (n : Int) : -9223372036854775808 ≤ wrap64 n ∧ wrap64 n ≤ 9223372036854775807 := by
  unfold wrap64
  omega
theorem wrap_of_emod {x y : Int} (h : x % 18446744073709551616 = y % 18446744073709551616) : wrap64 x = wrap64 y := by
  unfold wrap64
  omega
theorem wrap_emod (x : Int) : wrap64 (x % 18446744073709551616) = wrap64 x := wrap_of_emod (Int.emod_emod_of_dvd x (Int.dvd_refl _))
theorem emod_wrap (x : Int) : wrap64 x % 18446744073709551616 = x % 18446744073709551616 := by
  unfold wrap64
  omega
theorem mul_wrap (x y : Int) : wrap64 (wrap64 x * y) = wrap64 (x * y) := by
  refine wrap_of_emod ?_
  rw [Int.mul_emod, emod_wrap, ← Int.mul_emod]
theorem wrap_mul (x y : Int) : wrap64 (x * wrap64 y) = wrap64 (x * y) := by rw [Int.mul_comm, mul_wrap, Int.mul_comm]
theorem add_wrap (x y : Int) : wrap64 (wrap64 x + y) = wrap64 (x + y) := by unfold wrap64; omega
theorem wrap_add (x y : Int) : wrap64 (x + wrap64 y) = wrap64 (x + y) := by unfold wrap64; omega
theorem wrap_sub (x y : Int) : wrap64 (wrap64 x - y) = wrap64 (x - y) := by unfold wrap64; omega

/-- The distance from 0. -/
theorem size_neg (n : Int) (h : n < 0) : (-(n + 1)) + 1 = (n.natAbs : Int) := by omega
/-- Products by words: the distances' product, its sign put on. -/
theorem mul_words (a b : Int) : a * b = (if (decide (a < 0) != decide (b < 0)) = true then -((a.natAbs * b.natAbs : Nat) : Int) else ((a.natAbs * b.natAbs : Nat) : Int)) := by
  rcases Int.natAbs_eq a with ha | ha <;> rcases Int.natAbs_eq b with hb | hb
  all_goals
    generalize a.natAbs = m at ha
    generalize b.natAbs = n at hb
    subst ha; subst hb
  · rw [if_neg (by simp; omega)]; simp
  · by_cases h : n = 0
    · subst h; simp
    · by_cases h' : m = 0
      · subst h'; simp
      · rw [if_pos (by simp; omega), Int.mul_neg]; simp
  · by_cases h : n = 0
    · subst h; simp
    · by_cases h' : m = 0
      · subst h'; simp
      · rw [if_pos (by simp; omega), Int.neg_mul]; simp
  · by_cases h : n = 0
    · subst h; simp
    · by_cases h' : m = 0
      · subst h'; simp
      · rw [if_neg (by simp; omega), Int.neg_mul_neg]; simp
theorem tdiv_words (a b : Int) : a.tdiv b = (if (decide (a < 0) != decide (b < 0)) = true then -((a.natAbs / b.natAbs : Nat) : Int) else ((a.natAbs / b.natAbs : Nat) : Int)) := by
  rcases Int.natAbs_eq a with ha | ha <;> rcases Int.natAbs_eq b with hb | hb
  all_goals
    generalize a.natAbs = m at ha
    generalize b.natAbs = n at hb
    subst ha; subst hb
  · rw [if_neg (by simp; omega)]; rfl
  · by_cases h : n = 0
    · subst h; simp
    · by_cases h' : m = 0
      · subst h'; simp
      · rw [if_pos (by simp; omega), Int.tdiv_neg]; rfl
  · by_cases h : n = 0
    · subst h; simp
    · by_cases h' : m = 0
      · subst h'; simp
      · rw [if_pos (by simp; omega), Int.neg_tdiv]; rfl
  · by_cases h : n = 0
    · subst h; simp
    · by_cases h' : m = 0
      · subst h'; simp
      · rw [if_neg (by simp; omega), Int.neg_tdiv, Int.tdiv_neg, Int.neg_neg]; rfl
theorem tmod_words (a b : Int) : a.tmod b = (if decide (a < 0) = true then -((a.natAbs % b.natAbs : Nat) : Int) else ((a.natAbs % b.natAbs : Nat) : Int)) := by
  rcases Int.natAbs_eq a with ha | ha <;> rcases Int.natAbs_eq b with hb | hb
  all_goals
    generalize a.natAbs = m at ha
    generalize b.natAbs = n at hb
    subst ha; subst hb
  · rw [if_neg (by simp)]
    rfl
  · rw [if_neg (by simp), Int.tmod_neg]
    rfl
  · by_cases h' : m = 0
    · subst h'; simp
    · rw [if_pos (by simp; omega), Int.neg_tmod]; rfl
  · by_cases h' : m = 0
    · subst h'; simp
    · rw [if_pos (by simp; omega), Int.neg_tmod, Int.tmod_neg]; rfl
/-- The quotient and what is left fit, but for one. -/
theorem tdiv_range (a b : Int) (ha : -9223372036854775808 ≤ a ∧ a ≤ 9223372036854775807) (hb : b ≠ -1) : -9223372036854775808 ≤ a.tdiv b ∧ a.tdiv b ≤ 9223372036854775807 := by
  have h : (a.tdiv b).natAbs = a.natAbs / b.natAbs := Int.natAbs_tdiv a b
  by_cases h0 : b.natAbs = 0
  · have : b = 0 := by omega
    subst this
    simp
  · by_cases h1 : b.natAbs = 1
    · have : b = 1 := by omega
      subst this
      simp [Int.tdiv_one]
      exact ha
    · have h2 : a.natAbs / b.natAbs ≤ a.natAbs / 2 := Nat.div_le_div_left (by omega) (by omega)
      omega
theorem tmod_range (a b : Int) (ha : -9223372036854775808 ≤ a ∧ a ≤ 9223372036854775807) : -9223372036854775808 ≤ a.tmod b ∧ a.tmod b ≤ 9223372036854775807 := by
  have h := Int.natAbs_tmod a b
  have h2 : a.natAbs % b.natAbs ≤ a.natAbs := Nat.mod_le _ _
  by_cases h0 : 0 ≤ a
  · have := Int.tmod_nonneg b h0
    omega
  · have : a.tmod b ≤ 0 := by
      have h3 := Int.neg_tmod a b
      have h4 : 0 ≤ (-a).tmod b := Int.tmod_nonneg b (by omega)
      omega
    omega
def Fits (x : Int × Int) : Prop := -9223372036854775808 ≤ x.1 ∧ x.1 ≤ 9223372036854775807
theorem fits_ite {c : Prop} [Decidable c] {x y : Int × Int} (h : c → Fits x) (k : ¬ c → Fits y) : Fits (if c then x else y) := by
  by_cases hc : c
  · rw [if_pos hc]; exact h hc
  · rw [if_neg hc]; exact k hc
theorem fits_tr (p : Bool) (e : Int) : Fits (tr p, e) := by cases p <;> simp [Fits, tr]
theorem calcDo_range (op a b : Int) (ha : -9223372036854775808 ≤ a ∧ a ≤ 9223372036854775807) : Fits (calcDo op a b) := by
  unfold calcDo
  repeat' (refine fits_ite (fun _ => ?_) (fun _ => ?_))
  all_goals first | exact wrap_range _ | exact fits_tr _ _ | exact tmod_range _ _ ha | exact tdiv_range _ _ ha (by assumption) | (simp [Fits]; done)
end Go.Proofs.YtboigomnjfflhaaDoor
