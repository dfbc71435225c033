/- Words that the statements of layer 2 share: rows that stay while other memory is written; Owned of rows just laid; the bytes of a constant text. No condition. -/
import Derived.Test.YtelplpajpfkfiaaSealSums
set_option linter.unusedVariables false
namespace Go.Proofs.Ytelplpajpfkfiaa
open Go.RowKit Oct

/-- What lies in no block that was written. -/
theorem Rd.grown_ne {w w' : World} {B : Nat} {A : Option Addr} {xs : List Value} {row : Option Nat} (h : Rd w B A xs) (hg : w.grownBy w' row) (hB : B ≤ w.heap.size) (hne : ∀ ad, A = some ad → 0 < xs.length → some ad.block ≠ row) : Rd w' B A xs := fun hn => by
  obtain ⟨ad, rfl, hb, hc⟩ := h hn
  exact ⟨ad, rfl, hb, fun j u hu => (World.cell?_of_block (w := w) (by rw [block_of_add]; exact hg.block ad.block (by omega) (hne ad rfl hn))).trans (hc j u hu)⟩
theorem RowOk.mono {w : World} {base base' : Nat} {v : Value} (h : RowOk w base v) (hb : base' ≤ base) : RowOk w base' v := by
  rcases h with r | ⟨g, n, cap, cur, r, hg, x⟩
  · exact .inl r
  · exact .inr ⟨g, n, cap, cur, r, by omega, x⟩
theorem RowOk.below {w w' : World} {base B : Nat} {v : Value} (h : RowOk w base v) (hb : Below B w w') (hB : w.heap.size ≤ B) : RowOk w' base v :=
  h.keep fun g hg => hb.block g (Nat.lt_of_lt_of_le (h.lt g hg) hB)
/-- Owned of rows that were just laid side by side. -/
theorem owned_lit (vs : List Value) (base : Nat) (w : World) (hok : ∀ v ∈ vs, RowOk w base v) (hap : Apart vs) (hbase : base ≤ w.heap.size) (hl : vs.length ≤ 4611686018427387904) :
    Calls Try.prog 27 #[.slice (some ⟨w.heap.size, 0, none⟩) vs.length vs.length] (w.alloc (.cells vs.toArray 22)) fun e w' => e = .returned (.bool true) ∧ Below base w w' ∧ (∀ k, k < w.heap.size → (∀ v ∈ vs, v.ownBlock ≠ some k) → w'.heap[k]? = w.heap[k]?) ∧ ∀ v ∈ vs, RowOk w' base v := by
  have hall : ∀ v ∈ vs, RowOk (w.alloc (.cells vs.toArray 22)) base v := fun v hv => (hok v hv).alloc _
  refine (owned_any _ vs _ _ _ base rfl _ (rd_lit w 22 vs) hall hap (by
    intro ad had v hv he
    injection had with had
    subst had
    have := (hok v hv).lt _ he
    simp at this) hl).mono ?_
  rintro e w' ⟨rfl, ho, h2⟩
  refine ⟨rfl, ((Below.refl _ w).alloc hbase _).trans (ho.below fun v hv => (hall v hv).base), fun k hk h1 => ?_, h2⟩
  exact (ho.block k h1).trans (Below.heap_alloc w _ k hk)
theorem apart_three {a b c : Value} (h1 : ∀ g, a.ownBlock = some g → b.ownBlock ≠ some g) (h2 : ∀ g, a.ownBlock = some g → c.ownBlock ≠ some g) (h3 : ∀ g, b.ownBlock = some g → c.ownBlock ≠ some g) : Apart [a, b, c] := by
  intro i j hi hj hij g hg
  match i, j, hi, hj with
  | 0, 0, _, _ => exact absurd rfl hij
  | 1, 1, _, _ => exact absurd rfl hij
  | 2, 2, _, _ => exact absurd rfl hij
  | 0, 1, _, _ => exact h1 g hg
  | 1, 0, _, _ => exact fun h' => h1 g h' hg
  | 0, 2, _, _ => exact h2 g hg
  | 2, 0, _, _ => exact fun h' => h2 g h' hg
  | 1, 2, _, _ => exact h3 g hg
  | 2, 1, _, _ => exact fun h' => h3 g h' hg
theorem grown_of_blocks {w w' : World} {B : Nat} {row : Option Nat} (hb : Below B w w') (h : ∀ k, k < w.heap.size → B ≤ k → some k ≠ row → w'.heap[k]? = w.heap[k]?) : w.grownBy w' row :=
  ⟨hb.os, hb.tape, hb.output, hb.size, fun k hk hne => by
    by_cases hB : k < B
    · exact hb.block k hB
    · exact h k hk (by omega) hne⟩
/-- The rows that a value of an address that reads has. -/
theorem Got.rd {w : World} {base : Nat} {A : Option Addr} {n c : Nat} {l : List UInt8} (h : Got w base (.slice A n c) l) : Rd w w.heap.size A (cells l) ∧ n = l.length ∧ l.length ≤ c ∧ c ≤ 9223372036854775807 := by
  obtain ⟨A', c', h1, h2, h3, h4⟩ := h.shape
  injection h1 with h1 h5 h6
  subst h1; subst h5; subst h6
  exact ⟨h4, rfl, h2, h3⟩
theorem closeE_cases (p : List UInt8) : (1048576 < p.length ∧ closeE p = 2 ∧ closeS p = []) ∨ (p.length ≤ 1048576 ∧ closeE p = 0 ∧ closeS p = piece p ∧ p.length + 5 ≤ (closeS p).length ∧ (closeS p).length ≤ p.length + 14) := by
  by_cases h : 1048576 < p.length
  · exact .inl ⟨h, if_pos h, if_pos h⟩
  · have h1 : closeS p = piece p := if_neg h
    have h2 := enc_len p.length (by omega)
    refine .inr ⟨by omega, if_neg h, h1, ?_, ?_⟩
    · rw [h1]; exact piece_le p
    · rw [h1, piece_length]; omega
/-- Owned of rows that a call has made, and one lent row behind them. -/
theorem owned_rows {w1 w2 : World} {base base' g n c : Nat} {v v' : Value} {xs : List Value} {ls : List (List UInt8)} {l : List UInt8} (h : GotRows w1 base v xs ls) (hl : LentAt w1 g l) (hll : l.length ≤ 140737488351232) (hn : n = l.length) (hc : c = l.length + 1)
    (hx : ∀ x ∈ xs, x.ownBlock ≠ some g) (hv : v.ownBlock ≠ some g) (hown : Own w2 base 22 v' (xs ++ [.slice (some ⟨g, 0, none⟩) n c])) (hg : w1.grownBy w2 v.ownBlock) (hf : Fresh v' v.ownBlock w1.heap.size)
    (hb1 : base' ≤ base) (hb2 : base' ≤ g) (hxl : xs.length ≤ 4611686018427387903) :
    Calls Try.prog 27 #[v'] w2 fun e w' => e = .returned (.bool true) ∧ Below base' w2 w' := by
  subst hn; subst hc
  have hxlt : ∀ x ∈ xs, ∀ k, x.ownBlock = some k → k < w1.heap.size := fun x hx k hk => by
    obtain ⟨i, hi, rfl⟩ := List.getElem_of_mem hx
    exact (h.got i hi (by rw [← h.len]; exact hi)).row.lt k hk
  have hok : ∀ u ∈ xs ++ [.slice (some ⟨g, 0, none⟩) l.length (l.length + 1)], RowOk w2 base' u := by
    intro u hu
    rcases List.mem_append.1 hu with hu | hu
    · obtain ⟨i, hi, rfl⟩ := List.getElem_of_mem hu
      refine ((h.got i hi (by rw [← h.len]; exact hi)).row.keep fun k hk => hg.block k (hxlt _ hu k hk) ?_).mono hb1
      exact fun e => h.off _ hu k hk e.symm
    · obtain rfl := List.mem_singleton.1 hu
      refine (RowOk.of_lent hl hb2 hll).keep fun k hk => hg.block k ?_ ?_
      · have : g = k := by simpa [Value.ownBlock] using hk
        have := Blk.lt hl
        omega
      · have : g = k := by simpa [Value.ownBlock] using hk
        subst this
        exact fun e => hv e.symm
  have hap : Apart (xs ++ [.slice (some ⟨g, 0, none⟩) l.length (l.length + 1)]) := by
    intro i j hi hj hij k h1 h2
    simp only [List.length_append, List.length_cons, List.length_nil] at hi hj
    by_cases hi1 : i < xs.length <;> by_cases hj1 : j < xs.length
    · rw [List.getElem_append_left hi1] at h1
      rw [List.getElem_append_left hj1] at h2
      exact h.apart i j hi1 hj1 hij k h1 h2
    · rw [List.getElem_append_left hi1] at h1
      have hj2 : j = xs.length := by omega
      subst hj2
      rw [List.getElem_append_right (Nat.le_refl _)] at h2
      have : g = k := by simpa [Value.ownBlock] using h2
      subst this
      exact hx _ (List.getElem_mem hi1) h1
    · rw [List.getElem_append_left hj1] at h2
      have hi2 : i = xs.length := by omega
      subst hi2
      rw [List.getElem_append_right (Nat.le_refl _)] at h1
      have : g = k := by simpa [Value.ownBlock] using h1
      subst this
      exact hx _ (List.getElem_mem hj1) h2
    · omega
  obtain ⟨A, c', hv', hle, hcm, hr⟩ := Own.shape hown
  have hne : ∀ ad, A = some ad → ∀ u ∈ xs ++ [.slice (some ⟨g, 0, none⟩) l.length (l.length + 1)], u.ownBlock ≠ some ad.block := by
    intro ad had u hu he
    have hvb : v'.ownBlock = some ad.block := by rw [hv', had]; rfl
    have hfr : v.ownBlock = some ad.block ∨ w1.heap.size ≤ ad.block := by
      rcases hf with hf | ⟨k, hf, hk⟩
      · exact .inl (hf.symm.trans hvb)
      · rw [hf] at hvb
        injection hvb with hvb
        subst hvb
        exact .inr hk
    rcases List.mem_append.1 hu with hu | hu
    · rcases hfr with hfr | hfr
      · exact h.off u hu _ he hfr
      · have := hxlt u hu _ he
        omega
    · obtain rfl := List.mem_singleton.1 hu
      have hgk : g = ad.block := by simpa [Value.ownBlock] using he
      rcases hfr with hfr | hfr
      · rw [← hgk] at hfr
        exact hv hfr
      · have := Blk.lt hl
        omega
  rw [hv']
  refine (owned_any A _ _ c' _ base' rfl w2 hr hok hap hne (by simp; omega)).mono ?_
  rintro e w' ⟨rfl, ho, _⟩
  exact ⟨rfl, ho.below fun u hu => (hok u hu).base⟩
theorem closeS_nil : closeE [] = 0 ∧ (closeS []).length = 5 := by decide +kernel
end Go.Proofs.Ytelplpajpfkfiaa
