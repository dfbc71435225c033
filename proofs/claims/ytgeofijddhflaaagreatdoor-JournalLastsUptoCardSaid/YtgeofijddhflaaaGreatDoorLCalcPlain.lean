/- What layer 3 reckons, in plain words: numbers of 64 bits that go round. No condition. -/
import Derived.Lib.Hide
import Derived.IntWalk
import Derived.Lib.ParseIntB
import Derived.Lib.ItoaNum
set_option linter.unusedVariables false
set_option linter.unusedSimpArgs false
namespace Go.Proofs.YtgeofijddhflaaaGreatDoor
section
open Go.RowKit
theorem qZ {p : Prop} (h : p) : RowKit.Hid p := h
theorem lR (n : Nat) : n ≤ n := Nat.le_refl n
theorem lS (B : Nat) (w : World) : RowKit.Below B w w := RowKit.Below.refl B w
theorem lT {α : Type _} {as bs : List α} : (as ++ bs).length = as.length + bs.length := List.length_append
theorem lU {α β : Type _} {as : List α} (f : α → β) : (as.map f).length = as.length := List.length_map f
theorem lV {α : Type _} {i : Nat} {l : List α} : (l.take i).length = min i l.length := List.length_take
theorem lW {α : Type _} {l : List α} {i : Nat} (h : i < l.length) : l[i]? = some l[i] := List.getElem?_eq_getElem h
theorem lX {α : Type _} {l : List α} {n : Nat} (h : n < l.length) : l[n] ∈ l := List.getElem_mem h
theorem lZ {α : Type _} {i : Nat} {l : List α} : (l.drop i).length = l.length - i := List.length_drop
theorem mA {α : Type _} {as : List α} {a : α} : as.concat a = as ++ [a] := List.concat_eq_append
theorem mC {α : Type _} {a : α} {as : List α} : (a :: as).length = as.length + 1 := List.length_cons
theorem mD {α : Type _} {l : List α} (h : l.length = 0) : l = [] := List.eq_nil_of_length_eq_zero h
theorem mE {α β : Type _} {f : α → β} {a b : List α} : (a ++ b).map f = a.map f ++ b.map f := List.map_append
theorem mG {α β : Type _} {f : α → β} {a : α} {l : List α} : (a :: l).map f = f a :: l.map f := List.map_cons
theorem mH (n : Int) (h : -9223372036854775808 ≤ n ∧ n ≤ 9223372036854775807) : IntKind.i64.wrap n = n := IntWalk.i64_in n h
theorem mI (w : World) (a : Addr) {u : Value} (h : w.cell? a = some u) : a.block < w.heap.size := World.block_lt_of_cell? w a h
theorem mJ {α : Type _} (l : List α) : l = [] ∨ ∃ (L : List α) (b : α), l = L.concat b := List.eq_nil_or_concat l
end
section
open Go.RowKit
end
section
open Go
def isD (c : UInt8) : Bool := decide (48 <= c.toNat ∧ c.toNat <= 57)
def aX8 (l : List UInt8) : List UInt8 := l.takeWhile isD
def dv (n : Nat) (c : UInt8) : Nat := 10 * n + (c.toNat - 48)
def valD (l : List UInt8) : Nat := l.foldl dv 0
def aF5 (l : List UInt8) : Int × Nat × Int :=
 if l = [] then (0, 0, 3)
 else if aX8 l = [] ∨ (1 < (aX8 l).length ∧ l.head? = some 48) then (0, 0, 4)
 else if 9223372036854775807 < valD (aX8 l) then (0, 0, 20)
 else (valD (aX8 l), (aX8 l).length, 0)
theorem cW1 (l : List UInt8) (k : Nat) (h : ∀ i (hi : i < l.length), i < k -> isD l[i] = true) (hk : k <= l.length) (he : k = l.length ∨ ∃ hl : k < l.length, isD l[k] = false) : aX8 l = l.take k := by
 induction l generalizing k with
 | nil => simp [aX8]
 | cons c r ih =>
  cases k with
  | zero =>
   rcases he with he | ⟨hl, he⟩
   ·simp at he
   simp at he
   simp [aX8, he]
  | succ k =>
   have h0 := h 0 (by simp) (by omega);simp at h0
   have h1 := ih k (fun i hi hik => h (i + 1) (by simp; omega) (by omega)) (by simpa using hk) (by
    rcases he with he | ⟨hl, he⟩
    ·exact .inl (by simpa using he)
    exact .inr ⟨by simpa using hl, by simpa using he⟩)
   unfold aX8 at h1 ⊢;simp [h0, h1]
theorem dJ0 (l : List UInt8) : ∀ a, a <= l.foldl dv a := by
 induction l with
 | nil => intro a; exact lR _
 | cons c r ih =>
  intro a;have := ih (dv a c);simp only [List.foldl_cons];unfold dv at *;omega
theorem dP1 (l : List UInt8) : (∀ c ∈ l, isD c = true) -> ∀ a7, a7 <= 18446744073709551615 -> (18446744073709551615 < l.foldl dv a7 -> Lib.parseUintM 18446744073709551615 a7 l = .range) ∧ (l.foldl dv a7 <= 18446744073709551615 -> Lib.parseUintM 18446744073709551615 a7 l = .ok (l.foldl dv a7)) := by
 induction l with
 | nil =>
  intro _ a7 h;exact ⟨fun h' => by simp at h'; omega, fun _ => rfl⟩
 | cons c r ih =>
  intro hl a7 h;have hc := hl c (by simp);unfold isD at hc;have a8 := of_decide_eq_true hc;have b8 := dJ0 r (dv a7 c);have a9 : dv a7 c = a7 * 10 + (c.toNat - 48) := by unfold dv; omega
  have hf : (c :: r).foldl dv a7 = r.foldl dv (dv a7 c) := rfl;unfold Lib.parseUintM;rw [if_pos a8, hf];by_cases h1 : 1844674407370955162 <= a7
  ·rw [if_pos h1]
   exact ⟨fun _ => rfl, fun h' => by omega⟩
  rw [if_neg h1];by_cases h2 : 18446744073709551615 < a7 * 10 + (c.toNat - 48)
  ·rw [if_pos h2]
   exact ⟨fun _ => rfl, fun h' => by omega⟩
  rw [if_neg h2, <- a9];exact ih (fun x hx => hl x (by simp [hx])) (dv a7 c) (by omega)
theorem dP8 (l : List UInt8) (h0 : l ≠ []) (hl : ∀ c ∈ l, isD c = true) : (9223372036854775807 < valD l -> Lib.parseIntB 64 l = .range) ∧ (valD l <= 9223372036854775807 -> Lib.parseIntB 64 l = .ok (valD l : Int)) := by
 have hu : (18446744073709551615 < valD l -> Lib.parseUintB 64 l = .range) ∧ (valD l <= 18446744073709551615 -> Lib.parseUintB 64 l = .ok (valD l)) := by
  unfold Lib.parseUintB;rw [if_neg h0];exact dP1 l hl 0 (by omega)
 cases l with
 | nil => exact absurd rfl h0
 | cons c r =>
  have hc := of_decide_eq_true (hl c (by simp));have a8 : ¬ (c.toNat = 43 ∨ c.toNat = 45) := by omega
  have a7 : ¬ c.toNat = 45 := by omega
  generalize valD (c :: r) = V at hu ⊢
  unfold Lib.parseIntB;simp only [if_neg a8];constructor
  ·intro h
   by_cases h1 : 18446744073709551615 < V
   ·rw [hu.1 h1]
   rw [hu.2 (by omega)];simp only;rw [if_pos ⟨a7, by simp; omega⟩]
  intro h;rw [hu.2 (by omega)];simp only;rw [if_neg (fun h' => by have := h'.2; simp at this; omega), if_neg (fun h' => a7 h'.1), if_neg a7]
theorem dD2 (l : List UInt8) : ∀ c ∈ aX8 l, isD c = true := fun c hc => by
 unfold aX8 at hc;have := List.all_takeWhile (p := isD) (l := l);exact List.all_eq_true.1 this c hc
theorem bX2 (d : Nat) (h : d < 10) : (UInt8.ofNat (48 + d)).toNat = 48 + d := by
 rw [UInt8.toNat_ofNat'];omega
theorem cJ5 {a b : List UInt8} (h : a ≠ []) : (a ++ b).head? = a.head? := by
 cases a with
 | nil => exact absurd rfl h
 | cons c r => rfl
theorem aO8 (u : Nat) : valD (Lib.decDigits u) = u ∧ (∀ c ∈ Lib.decDigits u, isD c = true) ∧ Lib.decDigits u ≠ [] ∧ (0 < u -> (Lib.decDigits u).head? ≠ some 48) := by
 induction u using Nat.strongRecOn with
 | ind u ih =>
  unfold Lib.decDigits;by_cases h : u < 10
  ·rw [dif_pos h]
   have hd := bX2 u h;refine ⟨?_, ?_, by simp, ?_⟩
   ·simp [valD, dv]
    omega
   ·intro c hc
    obtain rfl := List.mem_singleton.1 hc;unfold isD;rw [hd];exact decide_eq_true (by omega)
   intro h0 he;simp only [List.head?_cons, Option.some.injEq] at he;have := congrArg UInt8.toNat he;rw [hd] at this;have e : (48 : UInt8).toNat = 48 := rfl;omega
  rw [dif_neg h];obtain ⟨h1, h2, h3, h4⟩ := ih (u / 10) (by omega);have hd := bX2 (u % 10) (by omega);refine ⟨?_, ?_, by simp, ?_⟩
  ·unfold valD at h1 ⊢
   rw [List.foldl_append, h1];simp only [List.foldl_cons, List.foldl_nil, dv, hd];omega
  ·intro c hc
   rcases List.mem_append.1 hc with hc | hc
   ·exact h2 c hc
   obtain rfl := List.mem_singleton.1 hc;unfold isD;rw [hd];exact decide_eq_true (by omega)
  intro _;rw [cJ5 h3];exact h4 (by omega)
theorem cE8 (a b : List UInt8) (ha : ∀ c ∈ a, isD c = true) (hb : ∀ c, b.head? = some c -> isD c = false) : aX8 (a ++ b) = a := by
 induction a with
 | nil =>
  cases b with
  | nil => rfl
  | cons c r =>
   have := hb c rfl;simp [aX8, this]
 | cons c r ih =>
  have hc := ha c (by simp);have := ih fun x hx => ha x (by simp [hx])
  unfold aX8 at this ⊢;simp [hc, this]
theorem bJ0 (u : Nat) (h : u < 10) : (Lib.decDigits u).length = 1 := by
 unfold Lib.decDigits;rw [dif_pos h]
 rfl
theorem bZ6 (u : Nat) (hu : u <= 9223372036854775807) (b : List UInt8) (hb : ∀ c, b.head? = some c -> isD c = false) : aF5 (Lib.decDigits u ++ b) = ((u : Int), (Lib.decDigits u).length, 0) := by
 obtain ⟨h1, h2, h3, h4⟩ := aO8 u;have hl := cE8 _ b h2 hb;unfold aF5;rw [hl, h1, if_neg (by simp [h3]), if_neg, if_neg (by omega)];rintro (h | ⟨h, h'⟩)
 ·exact h3 h
 rw [cJ5 h3] at h';by_cases h0 : 0 < u
 ·exact h4 h0 h'
 rw [bJ0 u (by omega)] at h;omega
end
end Go.Proofs.YtgeofijddhflaaaGreatDoor
