/- The owner of an instance writes over it (pavanelaw15.Over). Condition: the instance is a call's own. -/
import Derived.Test.YtaadbklimfngiaaImageRead
set_option linter.unusedVariables false
namespace Go.Proofs.Ytaadbklimfngiaa
open Go.RowKit Oct

/-- A row of a call's own, whatever it holds. -/
def RowS (w : World) (base : Nat) (T : TypeId) (size : Nat) (v : Value) (n : Nat) : Prop :=
  ∃ A c, v = .slice A n c ∧ (0 < n → ∃ g cur, A = some ⟨g, 0, none⟩ ∧ base ≤ g ∧ w.heap[g]? = some (.cells cur T (0, 0)) ∧ n * size ≤ cur.size)
theorem RowS.of {w : World} {base : Nat} {T : TypeId} {size n : Nat} {v : Value} {xs : List Value} (h : w.ownsRow base T size v n xs) : RowS w base T size v n := by
  obtain ⟨A, c, hv, hn, _, hg⟩ := own_row_shape h
  exact ⟨A, c, hv, fun h0 => by
    obtain ⟨g, cur, h1, h2, _, h3, h4, _⟩ := hg h0
    exact ⟨g, cur, h1, h2, h3, by rw [h4]; exact Nat.mul_le_mul_right _ hn⟩⟩
/-- From base on blocks hold what they hold, with other cells; below all is as it was; blocks of type Q stand but for those that are named. -/
structure Turn (base : Nat) (w w' : World) : Prop where
  below : Below base w w'
  shape : ∀ (g : Nat) (cur : Array Value) (T : TypeId), w.heap[g]? = some (Obj.cells cur T (0, 0)) → ∃ cur' : Array Value, w'.heap[g]? = some (Obj.cells cur' T (0, 0)) ∧ cur'.size = cur.size
theorem Turn.refl (base : Nat) (w : World) : Turn base w w := ⟨Below.refl _ _, fun g cur T h => ⟨cur, h, rfl⟩⟩
theorem Turn.trans {base : Nat} {w w1 w2 : World} (h : Turn base w w1) (k : Turn base w1 w2) : Turn base w w2 :=
  ⟨h.below.trans k.below, fun g cur T hg => by
    obtain ⟨c1, h1, e1⟩ := h.shape g cur T hg
    obtain ⟨c2, h2, e2⟩ := k.shape g c1 T h1
    exact ⟨c2, h2, e2.trans e1⟩⟩
theorem Turn.set {base : Nat} (w : World) {g : Nat} (hb : base ≤ g) (j : Nat) (u : Value) : Turn base w (w.setCell ⟨g, j, none⟩ u) :=
  ⟨(Below.refl _ _).setCell (p := ⟨g, j, none⟩) hb u, fun q cur T hq => by
    by_cases e : q = g
    · subst e
      exact ⟨cur.setIfInBounds j u, Blk.set_ (w := w) hq j u, by simp⟩
    · exact ⟨cur, (Below.heap_setCell w ⟨g, j, none⟩ u q (by show q ≠ g; exact e)).trans hq, rfl⟩⟩
theorem RowS.turn {base : Nat} {w w' : World} (ht : Turn base w w') {b : Nat} {T : TypeId} {size n : Nat} {v : Value} (h : RowS w b T size v n) : RowS w' b T size v n := by
  obtain ⟨A, c, hv, hg⟩ := h
  refine ⟨A, c, hv, fun h0 => ?_⟩
  obtain ⟨g, cur, h1, h2, h3, h4⟩ := hg h0
  obtain ⟨c2, h5, h6⟩ := ht.shape g cur T h3
  exact ⟨g, c2, h1, h2, h5, by rw [h6]; exact h4⟩
/-- A cell of a row can be written. -/
theorem RowS.at_ {w : World} {base : Nat} {T : TypeId} {size n : Nat} {v : Value} (h : RowS w base T size v n) {j : Nat} (hj : j < n * size) : ∃ g c, v = .slice (some ⟨g, 0, none⟩) n c ∧ base ≤ g ∧ (∃ u, w.cell? ⟨g, j, none⟩ = some u) ∧ w.frozen? ⟨g, j, none⟩ = false := by
  obtain ⟨A, c, hv, hg⟩ := h
  have h0 : 0 < n := by
    rcases Nat.eq_zero_or_pos n with h | h
    · rw [h] at hj; simp at hj
    · exact h
  obtain ⟨g, cur, h1, h2, h3, h4⟩ := hg h0
  have hb : Blk w g T cur := h3
  refine ⟨g, c, by rw [hv, h1], h2, ⟨cur[j]'(by omega), ?_⟩, hb.frozen j⟩
  rw [hb.cell j]
  exact Array.getElem?_eq_getElem (by omega)
/-- What is left of an instance's rows while its owner writes over it. -/
structure OvAt (w : World) (base : Nat) (v1 : Value) (n1 : Nat) (v2 : Value) (n2 : Nat) (v3 : Value) (es : List PE) (v4 : Value) (n4 : Nat) (i : Nat) : Prop where
  act : RowS w base 3 1 v1 n1
  nums : RowS w base 3 1 v2 n2
  past : RowS w base 129 2 v3 es.length
  tms : RowS w base 136 3 v4 n4
  rows : ∀ k (hk : k < es.length), i ≤ k → ∃ g c, v3 = .slice (some ⟨g, 0, none⟩) es.length c ∧ w.cell? ⟨g, k * 2 + 1, none⟩ = some es[k].2
  each : ∀ e ∈ es, RowS w base 3 1 e.2 e.1.z.length
/-- A cell of a row of ints, or of timers, is written. -/
theorem OvAt.set {w : World} {base : Nat} {v1 : Value} {n1 : Nat} {v2 : Value} {n2 : Nat} {v3 : Value} {es : List PE} {v4 : Value} {n4 i : Nat} (h : OvAt w base v1 n1 v2 n2 v3 es v4 n4 i) {g : Nat} (hb : base ≤ g) {cur : Array Value} {T : TypeId} (hg : w.heap[g]? = some (Obj.cells cur T (0, 0))) (hT : T ≠ 129) (j : Nat) (u : Value) :
    OvAt (w.setCell ⟨g, j, none⟩ u) base v1 n1 v2 n2 v3 es v4 n4 i := by
  have ht := Turn.set w hb j u
  refine ⟨h.act.turn ht, h.nums.turn ht, h.past.turn ht, h.tms.turn ht, fun k hk hik => ?_, fun e he => (h.each e he).turn ht⟩
  obtain ⟨gp, c, hv, hc⟩ := h.rows k hk hik
  refine ⟨gp, c, hv, ?_⟩
  have hne : gp ≠ g := fun e => by
    subst e
    obtain ⟨A, c', hv', hr⟩ := h.past
    obtain ⟨g2, cur2, h1, _, h3, _⟩ := hr (by omega)
    rw [hv] at hv'
    injection hv' with hA
    rw [← hA] at h1
    injection h1 with h1
    injection h1 with h1
    subst h1
    rw [hg] at h3
    injection h3 with h3
    injection h3 with _ h3 _
    exact hT h3
  exact (World.cell?_of_block (Below.heap_setCell w ⟨g, j, none⟩ u gp (by show gp ≠ g; exact hne))).trans hc
theorem OvAt.new {w w' : World} {base : Nat} {v1 : Value} {n1 : Nat} {v2 : Value} {n2 : Nat} {v3 : Value} {es : List PE} {v4 : Value} {n4 i : Nat} (h : OvAt w base v1 n1 v2 n2 v3 es v4 n4 i) (hb : Below w.heap.size w w') (hbase : base ≤ w.heap.size) : OvAt w' base v1 n1 v2 n2 v3 es v4 n4 i := by
  have ht : Turn base w w' := ⟨hb.mono hbase, fun g cur T hg => ⟨cur, (hb.block g (Array.getElem?_eq_some_iff.1 hg).1).trans hg, rfl⟩⟩
  refine ⟨h.act.turn ht, h.nums.turn ht, h.past.turn ht, h.tms.turn ht, fun k hk hik => ?_, fun e he => (h.each e he).turn ht⟩
  obtain ⟨gp, c, hv, hc⟩ := h.rows k hk hik
  have hlt := World.block_lt_of_cell? w _ hc
  exact ⟨gp, c, hv, (World.cell?_of_block (w := w) (hb.block gp hlt)).trans hc⟩
end Go.Proofs.Ytaadbklimfngiaa
