/- What layer 3 reckons, in plain words: numbers of 64 bits that go round. No condition. -/
import Derived.IntWalk
import Derived.Lib.ParseIntB
import Derived.Lib.ItoaNum
set_option linter.unusedVariables false
namespace Go.Proofs.YtgeofijddhflaaaGreatDoor
open Go.RowKit
end Go.Proofs.YtgeofijddhflaaaGreatDoor
set_option linter.unusedVariables false
namespace Go.Proofs.YtgeofijddhflaaaGreatDoor
open Go
def isD (c : UInt8) : Bool := decide (48 ≤ c.toNat ∧ c.toNat ≤ 57)
def lead (l : List UInt8) : List UInt8 := l.takeWhile isD
def dv (n : Nat) (c : UInt8) : Nat := 10 * n + (c.toNat - 48)
def valD (l : List UInt8) : Nat := l.foldl dv 0
def parseS (l : List UInt8) : Int × Nat × Int :=
 if l = [] then (0, 0, 3)
 else if lead l = [] ∨ (1 < (lead l).length ∧ l.head? = some 48) then (0, 0, 4)
 else if 9223372036854775807 < valD (lead l) then (0, 0, 20)
 else (valD (lead l), (lead l).length, 0)
theorem lead_of (l : List UInt8) (k : Nat) (h : ∀ i (hi : i < l.length), i < k → isD l[i] = true) (hk : k ≤ l.length) (he : k = l.length ∨ ∃ hl : k < l.length, isD l[k] = false) : lead l = l.take k := by
 induction l generalizing k with
 | nil => simp [lead]
 | cons c r ih =>
  cases k with
  | zero =>
   rcases he with he | ⟨hl, he⟩
   ·simp at he
   ·simp at he
    simp [lead, he]
  | succ k =>
   have h0 := h 0 (by simp) (by omega)
   simp at h0
   have h1 := ih k (fun i hi hik => h (i + 1) (by simp; omega) (by omega)) (by simpa using hk) (by
    rcases he with he | ⟨hl, he⟩
    ·exact .inl (by simpa using he)
    ·exact .inr ⟨by simpa using hl, by simpa using he⟩)
   unfold lead at h1 ⊢
   simp [h0, h1]
theorem fold_ge (l : List UInt8) : ∀ a, a ≤ l.foldl dv a := by
 induction l with
 | nil => intro a; exact Nat.le_refl _
 | cons c r ih =>
  intro a
  have := ih (dv a c)
  simp only [List.foldl_cons]
  unfold dv at *
  omega
theorem uintM (l : List UInt8) : (∀ c ∈ l, isD c = true) → ∀ acc, acc ≤ 18446744073709551615 → (18446744073709551615 < l.foldl dv acc → Lib.parseUintM 18446744073709551615 acc l = .range) ∧ (l.foldl dv acc ≤ 18446744073709551615 → Lib.parseUintM 18446744073709551615 acc l = .ok (l.foldl dv acc)) := by
 induction l with
 | nil =>
  intro _ acc h
  exact ⟨fun h' => by simp at h'; omega, fun _ => rfl⟩
 | cons c r ih =>
  intro hl acc h
  have hc := hl c (by simp)
  unfold isD at hc
  have hc' := of_decide_eq_true hc
  have hge := fold_ge r (dv acc c)
  have hdv : dv acc c = acc * 10 + (c.toNat - 48) := by unfold dv; omega
  have hf : (c :: r).foldl dv acc = r.foldl dv (dv acc c) := rfl
  unfold Lib.parseUintM
  rw [if_pos hc', hf]
  by_cases h1 : 1844674407370955162 ≤ acc
  ·rw [if_pos h1]
   exact ⟨fun _ => rfl, fun h' => by omega⟩
  ·rw [if_neg h1]
   by_cases h2 : 18446744073709551615 < acc * 10 + (c.toNat - 48)
   ·rw [if_pos h2]
    exact ⟨fun _ => rfl, fun h' => by omega⟩
   ·rw [if_neg h2, ← hdv]
    exact ih (fun x hx => hl x (by simp [hx])) (dv acc c) (by omega)
theorem intB (l : List UInt8) (h0 : l ≠ []) (hl : ∀ c ∈ l, isD c = true) : (9223372036854775807 < valD l → Lib.parseIntB 64 l = .range) ∧ (valD l ≤ 9223372036854775807 → Lib.parseIntB 64 l = .ok (valD l : Int)) := by
 have hu : (18446744073709551615 < valD l → Lib.parseUintB 64 l = .range) ∧ (valD l ≤ 18446744073709551615 → Lib.parseUintB 64 l = .ok (valD l)) := by
  unfold Lib.parseUintB
  rw [if_neg h0]
  exact uintM l hl 0 (by omega)
 cases l with
 | nil => exact absurd rfl h0
 | cons c r =>
  have hc := of_decide_eq_true (hl c (by simp))
  have hn1 : ¬ (c.toNat = 43 ∨ c.toNat = 45) := by omega
  have hn2 : ¬ c.toNat = 45 := by omega
  generalize valD (c :: r) = V at hu ⊢
  unfold Lib.parseIntB
  simp only [if_neg hn1]
  constructor
  ·intro h
   by_cases h1 : 18446744073709551615 < V
   ·rw [hu.1 h1]
   ·rw [hu.2 (by omega)]
    simp only
    rw [if_pos ⟨hn2, by simp; omega⟩]
  ·intro h
   rw [hu.2 (by omega)]
   simp only
   rw [if_neg (fun h' => by have := h'.2; simp at this; omega), if_neg (fun h' => hn2 h'.1), if_neg hn2]
theorem lead_mem (l : List UInt8) : ∀ c ∈ lead l, isD c = true := fun c hc => by
 unfold lead at hc
 have := List.all_takeWhile (p := isD) (l := l)
 exact List.all_eq_true.1 this c hc
theorem dig_toNat (d : Nat) (h : d < 10) : (UInt8.ofNat (48 + d)).toNat = 48 + d := by
 rw [UInt8.toNat_ofNat']
 omega
theorem head_app {a b : List UInt8} (h : a ≠ []) : (a ++ b).head? = a.head? := by
 cases a with
 | nil => exact absurd rfl h
 | cons c r => rfl
theorem decDigits_val (u : Nat) : valD (Lib.decDigits u) = u ∧ (∀ c ∈ Lib.decDigits u, isD c = true) ∧ Lib.decDigits u ≠ [] ∧ (0 < u → (Lib.decDigits u).head? ≠ some 48) := by
 induction u using Nat.strongRecOn with
 | ind u ih =>
  unfold Lib.decDigits
  by_cases h : u < 10
  ·rw [dif_pos h]
   have hd := dig_toNat u h
   refine ⟨?_, ?_, by simp, ?_⟩
   ·simp [valD, dv]
    omega
   ·intro c hc
    obtain rfl := List.mem_singleton.1 hc
    unfold isD
    rw [hd]
    exact decide_eq_true (by omega)
   ·intro h0 he
    simp only [List.head?_cons, Option.some.injEq] at he
    have := congrArg UInt8.toNat he
    rw [hd] at this
    have e : (48 : UInt8).toNat = 48 := rfl
    omega
  ·rw [dif_neg h]
   obtain ⟨h1, h2, h3, h4⟩ := ih (u / 10) (by omega)
   have hd := dig_toNat (u % 10) (by omega)
   refine ⟨?_, ?_, by simp, ?_⟩
   ·unfold valD at h1 ⊢
    rw [List.foldl_append, h1]
    simp only [List.foldl_cons, List.foldl_nil, dv, hd]
    omega
   ·intro c hc
    rcases List.mem_append.1 hc with hc | hc
    ·exact h2 c hc
    ·obtain rfl := List.mem_singleton.1 hc
     unfold isD
     rw [hd]
     exact decide_eq_true (by omega)
   ·intro _
    rw [head_app h3]
    exact h4 (by omega)
end Go.Proofs.YtgeofijddhflaaaGreatDoor
