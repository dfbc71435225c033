/- An inbox in plain words: what a piece does to it. No condition. -/
import Derived.Test.YtelplpajpfkfiaaKeepRPieces
set_option linter.unusedVariables false
namespace Go.Proofs.Ytelplpajpfkfiaa
open Go.RowKit Oct

/-- May a piece be? -/
def pcB (i t n m : Int) (k : Nat) : Bool := !outB i && !outB t && decide (1 ≤ m) && decide (m ≤ 4096) && decide (0 ≤ n) && decide (n < m) && decide (0 < k) && (decide (k = 400) || decide (k < 400) && decide (n = m - 1))
theorem pcB_spec {i t n m : Int} {k : Nat} : pcB i t n m k = true ↔ outB i = false ∧ outB t = false ∧ 1 ≤ m ∧ m ≤ 4096 ∧ 0 ≤ n ∧ n < m ∧ 0 < k ∧ (k = 400 ∨ k < 400 ∧ n = m - 1) := by
  unfold pcB
  simp only [Bool.and_eq_true, Bool.or_eq_true, Bool.not_eq_true', decide_eq_true_eq, and_assoc]
/-- An inbox: which snapshot, and how far; its bytes. -/
structure Inb where
  i : Int
  t : Int
  m : Int
  n : Int
  b : List UInt8
def inb0 : Inb := ⟨0, 0, 0, 0, []⟩
/-- Does the piece come next? -/
def fitB (s : Inb) (i t n m : Int) : Bool := decide (i = s.i) && decide (t = s.t) && decide (m = s.m) && decide (n = s.n)
def okB (s : Inb) (i t n m : Int) (l : List UInt8) : Bool := pcB i t n m l.length && (decide (n = 0) || fitB s i t n m)
/-- The bytes with the piece. -/
def putB (s : Inb) (n : Int) (l : List UInt8) : List UInt8 := (if n = 0 then [] else s.b) ++ l
def sameB (b : List UInt8) (i t : Int) : Bool := readB b && decide (rI b = i) && decide (rT b = t)
def endB (s : Inb) (i t n m : Int) (l : List UInt8) : Bool := okB s i t n m l && !decide (n + 1 < m) && sameB (putB s n l) i t
def putE (s : Inb) (i t n m : Int) (l : List UInt8) : Int :=
  if pcB i t n m l.length = false then 1 else if okB s i t n m l = false then 55 else if n + 1 < m then 0 else if sameB (putB s n l) i t = true then 0 else 54
def putS (s : Inb) (i t n m : Int) (l : List UInt8) : Inb :=
  if okB s i t n m l = false then s else if n + 1 < m then ⟨i, t, m, n + 1, putB s n l⟩ else inb0
def zI (c : Bool) (x : Int) : Int := if c = true then x else 0
def zL {α : Type} (c : Bool) (x : List α) : List α := if c = true then x else []
/-- What an inbox may be. -/
def Inb.ok (s : Inb) : Prop := s = inb0 ∨ (0 < s.b.length ∧ 1 ≤ s.n ∧ s.n < s.m ∧ s.m ≤ 4096 ∧ (0 ≤ s.i ∧ s.i ≤ 1099511627776) ∧ (0 ≤ s.t ∧ s.t ≤ 1099511627776) ∧ (s.b.length : Int) ≤ 400 * s.n)
theorem outB_false {n : Int} : outB n = false ↔ 0 ≤ n ∧ n ≤ 1099511627776 := by
  unfold outB
  simp only [Bool.or_eq_false_iff, decide_eq_false_iff_not]
  omega
theorem Inb.len {s : Inb} (h : s.ok) : s.b.length ≤ 1638400 := by
  rcases h with rfl | h
  · simp [inb0]
  · omega
theorem okB_spec {s : Inb} {i t n m : Int} {l : List UInt8} (h : okB s i t n m l = true) : pcB i t n m l.length = true ∧ (n = 0 ∨ (i = s.i ∧ t = s.t ∧ m = s.m ∧ n = s.n)) := by
  unfold okB fitB at h
  simp only [Bool.and_eq_true, Bool.or_eq_true, decide_eq_true_eq] at h
  exact ⟨h.1, by rcases h.2 with h | h
                 · exact .inl h
                 · exact .inr ⟨h.1.1.1, h.1.1.2, h.1.2, h.2⟩⟩
theorem putB_len {s : Inb} (hs : s.ok) {i t n m : Int} {l : List UInt8} (h : okB s i t n m l = true) : ((putB s n l).length : Int) ≤ 400 * (n + 1) ∧ 0 < (putB s n l).length := by
  obtain ⟨h1, h2⟩ := okB_spec h
  obtain ⟨_, _, _, _, h3, _, h5, h6⟩ := pcB_spec.1 h1
  unfold putB
  rw [List.length_append]
  by_cases h0 : n = 0
  · rw [if_pos h0]
    simp
    omega
  · rw [if_neg h0]
    rcases h2 with h2 | ⟨_, _, _, h2⟩
    · exact absurd h2 h0
    · rcases hs with rfl | hs
      · simp [inb0] at h2; omega
      · omega
theorem putS_ok {s : Inb} (hs : s.ok) (i t n m : Int) (l : List UInt8) : (putS s i t n m l).ok := by
  unfold putS
  by_cases h : okB s i t n m l = false
  · rw [if_pos h]; exact hs
  · rw [if_neg h]
    have h' : okB s i t n m l = true := by simpa using h
    by_cases h1 : n + 1 < m
    · rw [if_pos h1]
      obtain ⟨h2, h3⟩ := putB_len hs h'
      obtain ⟨h4, h5⟩ := okB_spec h'
      obtain ⟨a1, a2, a3, a4, a5, a6, _, _⟩ := pcB_spec.1 h4
      exact .inr ⟨h3, by show 1 ≤ n + 1; omega, h1, a4, outB_false.1 a1, outB_false.1 a2, h2⟩
    · rw [if_neg h1]; exact .inl rfl
end Go.Proofs.Ytelplpajpfkfiaa
