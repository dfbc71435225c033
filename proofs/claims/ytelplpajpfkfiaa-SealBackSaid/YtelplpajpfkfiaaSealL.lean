/- Words that the statements of layer 2 share: rows that stay while other memory is written; Owned of rows just laid; the bytes of a constant text. No condition. -/
import Derived.Test.YtelplpajpfkfiaaSealSums
set_option linter.unusedVariables false
namespace Go.Proofs.Ytelplpajpfkfiaa
open Go.RowKit Oct

/-- What lies in no block that was written. -/
theorem Rd.grown_ne {w w' : World} {B : Nat} {A : Option Addr} {xs : List Value} {row : Option Nat} (h : Rd w B A xs) (hg : w.grownBy w' row) (hB : B ≤ w.heap.size) (hne : ∀ ad, A = some ad → 0 < xs.length → some ad.block ≠ row) : Rd w' B A xs := fun hn => by
  obtain ⟨ad, rfl, hb, hc⟩ := h hn
  exact ⟨ad, rfl, hb, fun j u hu => (World.cell?_of_block (w := w) (by rw [block_of_add]; exact hg.block ad.block (by omega) (hne ad rfl hn))).trans (hc j u hu)⟩
theorem RowOk.mono {w : World} {base base' : Nat} {v : Value} (h : RowOk w base v) (hb : base' ≤ base) : RowOk w base' v := by
  rcases h with r | ⟨g, n, cap, cur, r, hg, x⟩
  · exact .inl r
  · exact .inr ⟨g, n, cap, cur, r, by omega, x⟩
theorem RowOk.below {w w' : World} {base B : Nat} {v : Value} (h : RowOk w base v) (hb : Below B w w') (hB : w.heap.size ≤ B) : RowOk w' base v :=
  h.keep fun g hg => hb.block g (Nat.lt_of_lt_of_le (h.lt g hg) hB)
/-- Owned of rows that were just laid side by side. -/
theorem owned_lit (vs : List Value) (base : Nat) (w : World) (hok : ∀ v ∈ vs, RowOk w base v) (hap : Apart vs) (hbase : base ≤ w.heap.size) (hl : vs.length ≤ 4611686018427387904) :
    Calls Try.prog 27 #[.slice (some ⟨w.heap.size, 0, none⟩) vs.length vs.length] (w.alloc (.cells vs.toArray 22)) fun e w' => e = .returned (.bool true) ∧ Below base w w' ∧ (∀ k, k < w.heap.size → (∀ v ∈ vs, v.ownBlock ≠ some k) → w'.heap[k]? = w.heap[k]?) ∧ ∀ v ∈ vs, RowOk w' base v := by
  have hall : ∀ v ∈ vs, RowOk (w.alloc (.cells vs.toArray 22)) base v := fun v hv => (hok v hv).alloc _
  refine (owned_any _ vs _ _ _ base rfl _ (rd_lit w 22 vs) hall hap (by
    intro ad had v hv he
    injection had with had
    subst had
    have := (hok v hv).lt _ he
    simp at this) hl).mono ?_
  rintro e w' ⟨rfl, ho, h2⟩
  refine ⟨rfl, ((Below.refl _ w).alloc hbase _).trans (ho.below fun v hv => (hall v hv).base), fun k hk h1 => ?_, h2⟩
  exact (ho.block k h1).trans (Below.heap_alloc w _ k hk)
theorem apart_three {a b c : Value} (h1 : ∀ g, a.ownBlock = some g → b.ownBlock ≠ some g) (h2 : ∀ g, a.ownBlock = some g → c.ownBlock ≠ some g) (h3 : ∀ g, b.ownBlock = some g → c.ownBlock ≠ some g) : Apart [a, b, c] := by
  intro i j hi hj hij g hg
  match i, j, hi, hj with
  | 0, 0, _, _ => exact absurd rfl hij
  | 1, 1, _, _ => exact absurd rfl hij
  | 2, 2, _, _ => exact absurd rfl hij
  | 0, 1, _, _ => exact h1 g hg
  | 1, 0, _, _ => exact fun h' => h1 g h' hg
  | 0, 2, _, _ => exact h2 g hg
  | 2, 0, _, _ => exact fun h' => h2 g h' hg
  | 1, 2, _, _ => exact h3 g hg
  | 2, 1, _, _ => exact fun h' => h3 g h' hg
theorem grown_of_blocks {w w' : World} {B : Nat} {row : Option Nat} (hb : Below B w w') (h : ∀ k, k < w.heap.size → B ≤ k → some k ≠ row → w'.heap[k]? = w.heap[k]?) : w.grownBy w' row :=
  ⟨hb.os, hb.tape, hb.output, hb.size, fun k hk hne => by
    by_cases hB : k < B
    · exact hb.block k hB
    · exact h k hk (by omega) hne⟩
/-- The rows that a value of an address that reads has. -/
theorem Got.rd {w : World} {base : Nat} {A : Option Addr} {n c : Nat} {l : List UInt8} (h : Got w base (.slice A n c) l) : Rd w w.heap.size A (cells l) ∧ n = l.length ∧ l.length ≤ c ∧ c ≤ 9223372036854775807 := by
  obtain ⟨A', c', h1, h2, h3, h4⟩ := h.shape
  injection h1 with h1 h5 h6
  subst h1; subst h5; subst h6
  exact ⟨h4, rfl, h2, h3⟩
theorem closeE_cases (p : List UInt8) : (1048576 < p.length ∧ closeE p = 2 ∧ closeS p = []) ∨ (p.length ≤ 1048576 ∧ closeE p = 0 ∧ closeS p = piece p ∧ p.length + 5 ≤ (closeS p).length ∧ (closeS p).length ≤ p.length + 14) := by
  by_cases h : 1048576 < p.length
  · exact .inl ⟨h, if_pos h, if_pos h⟩
  · have h1 : closeS p = piece p := if_neg h
    have h2 := enc_len p.length (by omega)
    refine .inr ⟨by omega, if_neg h, h1, ?_, ?_⟩
    · rw [h1]; exact piece_le p
    · rw [h1, piece_length]; omega
end Go.Proofs.Ytelplpajpfkfiaa
