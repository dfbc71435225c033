/- What layer 3 reckons, in plain words: numbers of 64 bits that go round. No condition. -/
import Derived.IntWalk
import Derived.Lib.ParseIntB
import Derived.Lib.ItoaNum
set_option linter.unusedVariables false
namespace Go.Proofs.YteehkcpokgeipaaGreatDoor
open Go.RowKit

def tr (p : Bool) : Int := if p then 1 else 0
/-- What comes of an operator and two numbers. -/
def calcDo (op a b : Int) : Int × Int :=
  if op = 1 then (wrap64 (a + b), 0)
  else if op = 2 then (wrap64 (a - b), 0)
  else if op = 3 then (wrap64 (a * b), 0)
  else if op = 4 then (if b = 0 then (0, 10) else if b = -1 then (wrap64 (-a), 0) else (a.tdiv b, 0))
  else if op = 5 then (if b = 0 then (0, 10) else if b = -1 then (0, 0) else (a.tmod b, 0))
  else if op = 6 then (tr (decide (a < b)), 0)
  else if op = 7 then (tr (decide (a ≤ b)), 0)
  else if op = 8 then (tr (decide (b < a)), 0)
  else if op = 9 then (tr (decide (b ≤ a)), 0)
  else if op = 10 then (tr (a == b), 0)
  else if op = 11 then (tr (a != b), 0)
  else if op = 12 then (tr (a != 0 && b != 0), 0)
  else if op = 13 then (tr (a != 0 || b != 0), 0)
  else (0, 11)
/-- What comes of an operator and one number. -/
def calcOne (op a : Int) : Int × Int :=
  if op = 14 then (wrap64 (-a), 0)
  else if op = 15 then (tr (a == 0), 0)
  else (0, 11)

theorem wrap_range (n : Int) : -9223372036854775808 ≤ wrap64 n ∧ wrap64 n ≤ 9223372036854775807 := by
  unfold wrap64
  omega
theorem wrap_of_emod {x y : Int} (h : x % 18446744073709551616 = y % 18446744073709551616) : wrap64 x = wrap64 y := by
  unfold wrap64
  omega
theorem wrap_emod (x : Int) : wrap64 (x % 18446744073709551616) = wrap64 x := wrap_of_emod (Int.emod_emod_of_dvd x (Int.dvd_refl _))
theorem emod_wrap (x : Int) : wrap64 x % 18446744073709551616 = x % 18446744073709551616 := by
  unfold wrap64
  omega
theorem mul_wrap (x y : Int) : wrap64 (wrap64 x * y) = wrap64 (x * y) := by
  refine wrap_of_emod ?_
  rw [Int.mul_emod, emod_wrap, ← Int.mul_emod]
theorem wrap_mul (x y : Int) : wrap64 (x * wrap64 y) = wrap64 (x * y) := by rw [Int.mul_comm, mul_wrap, Int.mul_comm]
theorem add_wrap (x y : Int) : wrap64 (wrap64 x + y) = wrap64 (x + y) := by unfold wrap64; omega
theorem wrap_add (x y : Int) : wrap64 (x + wrap64 y) = wrap64 (x + y) := by unfold wrap64; omega
theorem wrap_sub (x y : Int) : wrap64 (wrap64 x - y) = wrap64 (x - y) := by unfold wrap64; omega

/-- The distance from 0. -/
theorem size_neg (n : Int) (h : n < 0) : (-(n + 1)) + 1 = (n.natAbs : Int) := by omega
/-- Products by words: the distances' product, its sign put on. -/
theorem mul_words (a b : Int) : a * b = (if (decide (a < 0) != decide (b < 0)) = true then -((a.natAbs * b.natAbs : Nat) : Int) else ((a.natAbs * b.natAbs : Nat) : Int)) := by
  rcases Int.natAbs_eq a with ha | ha <;> rcases Int.natAbs_eq b with hb | hb
  all_goals
    generalize a.natAbs = m at ha
    generalize b.natAbs = n at hb
    subst ha; subst hb
  · rw [if_neg (by simp; omega)]; simp
  · by_cases h : n = 0
    · subst h; simp
    · by_cases h' : m = 0
      · subst h'; simp
      · rw [if_pos (by simp; omega), Int.mul_neg]; simp
  · by_cases h : n = 0
    · subst h; simp
    · by_cases h' : m = 0
      · subst h'; simp
      · rw [if_pos (by simp; omega), Int.neg_mul]; simp
  · by_cases h : n = 0
    · subst h; simp
    · by_cases h' : m = 0
      · subst h'; simp
      · rw [if_neg (by simp; omega), Int.neg_mul_neg]; simp
theorem tdiv_words (a b : Int) : a.tdiv b = (if (decide (a < 0) != decide (b < 0)) = true then -((a.natAbs / b.natAbs : Nat) : Int) else ((a.natAbs / b.natAbs : Nat) : Int)) := by
  rcases Int.natAbs_eq a with ha | ha <;> rcases Int.natAbs_eq b with hb | hb
  all_goals
    generalize a.natAbs = m at ha
    generalize b.natAbs = n at hb
    subst ha; subst hb
  · rw [if_neg (by simp; omega)]; rfl
  · by_cases h : n = 0
    · subst h; simp
    · by_cases h' : m = 0
      · subst h'; simp
      · rw [if_pos (by simp; omega), Int.tdiv_neg]; rfl
  · by_cases h : n = 0
    · subst h; simp
    · by_cases h' : m = 0
      · subst h'; simp
      · rw [if_pos (by simp; omega), Int.neg_tdiv]; rfl
  · by_cases h : n = 0
    · subst h; simp
    · by_cases h' : m = 0
      · subst h'; simp
      · rw [if_neg (by simp; omega), Int.neg_tdiv, Int.tdiv_neg, Int.neg_neg]; rfl
theorem tmod_words (a b : Int) : a.tmod b = (if decide (a < 0) = true then -((a.natAbs % b.natAbs : Nat) : Int) else ((a.natAbs % b.natAbs : Nat) : Int)) := by
  rcases Int.natAbs_eq a with ha | ha <;> rcases Int.natAbs_eq b with hb | hb
  all_goals
    generalize a.natAbs = m at ha
    generalize b.natAbs = n at hb
    subst ha; subst hb
  · rw [if_neg (by simp)]
    rfl
  · rw [if_neg (by simp), Int.tmod_neg]
    rfl
  · by_cases h' : m = 0
    · subst h'; simp
    · rw [if_pos (by simp; omega), Int.neg_tmod]; rfl
  · by_cases h' : m = 0
    · subst h'; simp
    · rw [if_pos (by simp; omega), Int.neg_tmod, Int.tmod_neg]; rfl
/-- The quotient and what is left fit, but for one. -/
theorem tdiv_range (a b : Int) (ha : -9223372036854775808 ≤ a ∧ a ≤ 9223372036854775807) (hb : b ≠ -1) : -9223372036854775808 ≤ a.tdiv b ∧ a.tdiv b ≤ 9223372036854775807 := by
  have h : (a.tdiv b).natAbs = a.natAbs / b.natAbs := Int.natAbs_tdiv a b
  by_cases h0 : b.natAbs = 0
  · have : b = 0 := by omega
    subst this
    simp
  · by_cases h1 : b.natAbs = 1
    · have : b = 1 := by omega
      subst this
      simp [Int.tdiv_one]
      exact ha
    · have h2 : a.natAbs / b.natAbs ≤ a.natAbs / 2 := Nat.div_le_div_left (by omega) (by omega)
      omega
theorem tmod_range (a b : Int) (ha : -9223372036854775808 ≤ a ∧ a ≤ 9223372036854775807) : -9223372036854775808 ≤ a.tmod b ∧ a.tmod b ≤ 9223372036854775807 := by
  have h := Int.natAbs_tmod a b
  have h2 : a.natAbs % b.natAbs ≤ a.natAbs := Nat.mod_le _ _
  by_cases h0 : 0 ≤ a
  · have := Int.tmod_nonneg b h0
    omega
  · have : a.tmod b ≤ 0 := by
      have h3 := Int.neg_tmod a b
      have h4 : 0 ≤ (-a).tmod b := Int.tmod_nonneg b (by omega)
      omega
    omega
def Fits (x : Int × Int) : Prop := -9223372036854775808 ≤ x.1 ∧ x.1 ≤ 9223372036854775807
theorem fits_ite {c : Prop} [Decidable c] {x y : Int × Int} (h : c → Fits x) (k : ¬ c → Fits y) : Fits (if c then x else y) := by
  by_cases hc : c
  · rw [if_pos hc]; exact h hc
  · rw [if_neg hc]; exact k hc
theorem fits_tr (p : Bool) (e : Int) : Fits (tr p, e) := by cases p <;> simp [Fits, tr]
theorem calcDo_range (op a b : Int) (ha : -9223372036854775808 ≤ a ∧ a ≤ 9223372036854775807) : Fits (calcDo op a b) := by
  unfold calcDo
  repeat' (refine fits_ite (fun _ => ?_) (fun _ => ?_))
  all_goals first | exact wrap_range _ | exact fits_tr _ _ | exact tmod_range _ _ ha | exact tdiv_range _ _ ha (by assumption) | (simp [Fits]; done)
end Go.Proofs.YteehkcpokgeipaaGreatDoor

/- Digits, in plain words: which number a text begins with; a number's digits. No condition. -/
set_option linter.unusedVariables false
namespace Go.Proofs.YteehkcpokgeipaaGreatDoor
open Go

def isD (c : UInt8) : Bool := decide (48 ≤ c.toNat ∧ c.toNat ≤ 57)
def lead (l : List UInt8) : List UInt8 := l.takeWhile isD
def dv (n : Nat) (c : UInt8) : Nat := 10 * n + (c.toNat - 48)
def valD (l : List UInt8) : Nat := l.foldl dv 0
/-- The number that a text begins with, its digits, an error. -/
def parseS (l : List UInt8) : Int × Nat × Int :=
  if l = [] then (0, 0, 3)
  else if lead l = [] ∨ (1 < (lead l).length ∧ l.head? = some 48) then (0, 0, 4)
  else if 9223372036854775807 < valD (lead l) then (0, 0, 20)
  else (valD (lead l), (lead l).length, 0)
/-- A number's digits; none of 0. -/
def dgs (u : Nat) : List UInt8 := if u = 0 then [] else Lib.decDigits u

theorem lead_of (l : List UInt8) (k : Nat) (h : ∀ i (hi : i < l.length), i < k → isD l[i] = true) (hk : k ≤ l.length) (he : k = l.length ∨ ∃ hl : k < l.length, isD l[k] = false) : lead l = l.take k := by
  induction l generalizing k with
  | nil => simp [lead]
  | cons c r ih =>
    cases k with
    | zero =>
      rcases he with he | ⟨hl, he⟩
      · simp at he
      · simp at he
        simp [lead, he]
    | succ k =>
      have h0 := h 0 (by simp) (by omega)
      simp at h0
      have h1 := ih k (fun i hi hik => h (i + 1) (by simp; omega) (by omega)) (by simpa using hk) (by
        rcases he with he | ⟨hl, he⟩
        · exact .inl (by simpa using he)
        · exact .inr ⟨by simpa using hl, by simpa using he⟩)
      unfold lead at h1 ⊢
      simp [h0, h1]
theorem fold_ge (l : List UInt8) : ∀ a, a ≤ l.foldl dv a := by
  induction l with
  | nil => intro a; exact Nat.le_refl _
  | cons c r ih =>
    intro a
    have := ih (dv a c)
    simp only [List.foldl_cons]
    unfold dv at *
    omega
theorem valD_snoc (l : List UInt8) (k : Nat) (h : k < l.length) : valD (l.take (k + 1)) = 10 * valD (l.take k) + (l[k].toNat - 48) := by
  rw [List.take_succ_eq_append_getElem h]
  unfold valD
  rw [List.foldl_append]
  rfl
theorem valD_mono (l : List UInt8) (k : Nat) : valD (l.take k) ≤ valD l := by
  have h : valD l = (l.drop k).foldl dv (valD (l.take k)) := by
    unfold valD
    rw [← List.foldl_append, List.take_append_drop]
  rw [h]
  exact fold_ge _ _
theorem uintM (l : List UInt8) : (∀ c ∈ l, isD c = true) → ∀ acc, acc ≤ 18446744073709551615 → (18446744073709551615 < l.foldl dv acc → Lib.parseUintM 18446744073709551615 acc l = .range) ∧ (l.foldl dv acc ≤ 18446744073709551615 → Lib.parseUintM 18446744073709551615 acc l = .ok (l.foldl dv acc)) := by
  induction l with
  | nil =>
    intro _ acc h
    exact ⟨fun h' => by simp at h'; omega, fun _ => rfl⟩
  | cons c r ih =>
    intro hl acc h
    have hc := hl c (by simp)
    unfold isD at hc
    have hc' := of_decide_eq_true hc
    have hge := fold_ge r (dv acc c)
    have hdv : dv acc c = acc * 10 + (c.toNat - 48) := by unfold dv; omega
    have hf : (c :: r).foldl dv acc = r.foldl dv (dv acc c) := rfl
    unfold Lib.parseUintM
    rw [if_pos hc', hf]
    by_cases h1 : 1844674407370955162 ≤ acc
    · rw [if_pos h1]
      exact ⟨fun _ => rfl, fun h' => by omega⟩
    · rw [if_neg h1]
      by_cases h2 : 18446744073709551615 < acc * 10 + (c.toNat - 48)
      · rw [if_pos h2]
        exact ⟨fun _ => rfl, fun h' => by omega⟩
      · rw [if_neg h2, ← hdv]
        exact ih (fun x hx => hl x (by simp [hx])) (dv acc c) (by omega)
theorem intB (l : List UInt8) (h0 : l ≠ []) (hl : ∀ c ∈ l, isD c = true) : (9223372036854775807 < valD l → Lib.parseIntB 64 l = .range) ∧ (valD l ≤ 9223372036854775807 → Lib.parseIntB 64 l = .ok (valD l : Int)) := by
  have hu : (18446744073709551615 < valD l → Lib.parseUintB 64 l = .range) ∧ (valD l ≤ 18446744073709551615 → Lib.parseUintB 64 l = .ok (valD l)) := by
    unfold Lib.parseUintB
    rw [if_neg h0]
    exact uintM l hl 0 (by omega)
  cases l with
  | nil => exact absurd rfl h0
  | cons c r =>
    have hc := of_decide_eq_true (hl c (by simp))
    have hn1 : ¬ (c.toNat = 43 ∨ c.toNat = 45) := by omega
    have hn2 : ¬ c.toNat = 45 := by omega
    generalize valD (c :: r) = V at hu ⊢
    unfold Lib.parseIntB
    simp only [if_neg hn1]
    constructor
    · intro h
      by_cases h1 : 18446744073709551615 < V
      · rw [hu.1 h1]
      · rw [hu.2 (by omega)]
        simp only
        rw [if_pos ⟨hn2, by simp; omega⟩]
    · intro h
      rw [hu.2 (by omega)]
      simp only
      rw [if_neg (fun h' => by have := h'.2; simp at this; omega), if_neg (fun h' => hn2 h'.1), if_neg hn2]
theorem lead_mem (l : List UInt8) : ∀ c ∈ lead l, isD c = true := fun c hc => by
  unfold lead at hc
  have := List.all_takeWhile (p := isD) (l := l)
  exact List.all_eq_true.1 this c hc

theorem dig_toNat (d : Nat) (h : d < 10) : (UInt8.ofNat (48 + d)).toNat = 48 + d := by
  rw [UInt8.toNat_ofNat']
  omega
theorem head_app {a b : List UInt8} (h : a ≠ []) : (a ++ b).head? = a.head? := by
  cases a with
  | nil => exact absurd rfl h
  | cons c r => rfl
theorem decDigits_val (u : Nat) : valD (Lib.decDigits u) = u ∧ (∀ c ∈ Lib.decDigits u, isD c = true) ∧ Lib.decDigits u ≠ [] ∧ (0 < u → (Lib.decDigits u).head? ≠ some 48) := by
  induction u using Nat.strongRecOn with
  | ind u ih =>
    unfold Lib.decDigits
    by_cases h : u < 10
    · rw [dif_pos h]
      have hd := dig_toNat u h
      refine ⟨?_, ?_, by simp, ?_⟩
      · simp [valD, dv]
        omega
      · intro c hc
        obtain rfl := List.mem_singleton.1 hc
        unfold isD
        rw [hd]
        exact decide_eq_true (by omega)
      · intro h0 he
        simp only [List.head?_cons, Option.some.injEq] at he
        have := congrArg UInt8.toNat he
        rw [hd] at this
        have e : (48 : UInt8).toNat = 48 := rfl
        omega
    · rw [dif_neg h]
      obtain ⟨h1, h2, h3, h4⟩ := ih (u / 10) (by omega)
      have hd := dig_toNat (u % 10) (by omega)
      refine ⟨?_, ?_, by simp, ?_⟩
      · unfold valD at h1 ⊢
        rw [List.foldl_append, h1]
        simp only [List.foldl_cons, List.foldl_nil, dv, hd]
        omega
      · intro c hc
        rcases List.mem_append.1 hc with hc | hc
        · exact h2 c hc
        · obtain rfl := List.mem_singleton.1 hc
          unfold isD
          rw [hd]
          exact decide_eq_true (by omega)
      · intro _
        rw [head_app h3]
        exact h4 (by omega)
theorem lead_append (a b : List UInt8) (ha : ∀ c ∈ a, isD c = true) (hb : ∀ c, b.head? = some c → isD c = false) : lead (a ++ b) = a := by
  induction a with
  | nil =>
    cases b with
    | nil => rfl
    | cons c r =>
      have := hb c rfl
      simp [lead, this]
  | cons c r ih =>
    have hc := ha c (by simp)
    have := ih fun x hx => ha x (by simp [hx])
    unfold lead at this ⊢
    simp [hc, this]
theorem decDigits_small (u : Nat) (h : u < 10) : (Lib.decDigits u).length = 1 := by
  unfold Lib.decDigits
  rw [dif_pos h]
  rfl
/-- A number's digits are read as the number. -/
theorem parse_digits (u : Nat) (hu : u ≤ 9223372036854775807) (b : List UInt8) (hb : ∀ c, b.head? = some c → isD c = false) : parseS (Lib.decDigits u ++ b) = ((u : Int), (Lib.decDigits u).length, 0) := by
  obtain ⟨h1, h2, h3, h4⟩ := decDigits_val u
  have hl := lead_append _ b h2 hb
  unfold parseS
  rw [hl, h1, if_neg (by simp [h3]), if_neg, if_neg (by omega)]
  rintro (h | ⟨h, h'⟩)
  · exact h3 h
  · rw [head_app h3] at h'
    by_cases h0 : 0 < u
    · exact h4 h0 h'
    · rw [decDigits_small u (by omega)] at h
      omega
theorem parse_minus (r : List UInt8) : parseS (45 :: r) = (0, 0, 4) := by
  have : lead (45 :: r) = [] := by
    unfold lead
    rw [List.takeWhile_cons]
    rfl
  unfold parseS
  rw [if_neg (by simp), if_pos (.inl this)]
end Go.Proofs.YteehkcpokgeipaaGreatDoor
