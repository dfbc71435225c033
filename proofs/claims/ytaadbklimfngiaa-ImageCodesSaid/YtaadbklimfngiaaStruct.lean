/- Slices of structs that a call has made: their cells, one behind another. No condition. -/
import Derived.Test.YtaadbklimfngiaaKeepApp
import Derived.Test.YtaadbklimfngiaaOpenI
set_option linter.unusedVariables false
namespace Go.Proofs.Ytaadbklimfngiaa
open Go.RowKit Oct

section
variable {α : Type} {f : α → List Value} {size : Nat}
theorem flat_length (hf : ∀ a, (f a).length = size) : ∀ es : List α, (es.flatMap f).length = es.length * size
  | [] => by simp
  | a :: es => by rw [List.flatMap_cons, List.length_append, hf, flat_length hf es, List.length_cons, Nat.add_mul, Nat.one_mul, Nat.add_comm]
theorem flat_get (hf : ∀ a, (f a).length = size) : ∀ (es : List α) (k j : Nat) (hk : k < es.length) (hj : j < size), (es.flatMap f)[k * size + j]? = (f es[k])[j]?
  | a :: es, 0, j, _, hj => by
    rw [List.flatMap_cons, Nat.zero_mul, Nat.zero_add, List.getElem?_append_left (by rw [hf]; exact hj)]
    rfl
  | a :: es, k + 1, j, hk, hj => by
    rw [List.flatMap_cons, List.getElem?_append_right (by rw [hf, Nat.add_mul]; omega), hf]
    have h := flat_get hf es k j (by simpa using hk) hj
    rw [show (k + 1) * size + j - size = k * size + j by rw [Nat.add_mul]; omega, h]
    rfl
theorem flat_snoc (es : List α) (a : α) : (es ++ [a]).flatMap f = es.flatMap f ++ f a := by simp
end
theorem own_row_shape {w : World} {base : Nat} {e : TypeId} {size n : Nat} {v : Value} {xs : List Value} (h : w.ownsRow base e size v n xs) :
    ∃ A c, v = .slice A n c ∧ n ≤ c ∧ c ≤ 9223372036854775807 ∧ (0 < n → ∃ g cur, A = some ⟨g, 0, none⟩ ∧ base ≤ g ∧ g < w.heap.size ∧ w.heap[g]? = some (.cells cur e (0, 0)) ∧ cur.size = c * size ∧ ∀ j u, xs[j]? = some u → w.cell? ⟨g, j, none⟩ = some u) := by
  rcases h.2 with ⟨rfl, h0⟩ | ⟨g, cap, cur, rfl, hb, hg, hn, hm, hs, ht⟩
  · exact ⟨none, 0, by rw [h0], by omega, by omega, fun hn => by omega⟩
  · refine ⟨_, cap, rfl, hn, by unfold maxLen at hm; omega, fun hn => ⟨g, cur, rfl, hb, (Array.getElem?_eq_some_iff.1 hg).1, hg, hs, fun j u hj => ?_⟩⟩
    rw [cell_of_row w g j cur e (0, 0) hg]
    rw [← ht] at hj
    rw [List.getElem?_take] at hj
    split at hj
    · simpa using hj
    · cases hj
/-- The past that a call has made: its places with the slices that hold their states. -/
abbrev PE := PastD × Value
def pastC (e : PE) : List Value := [.int .i64 e.1.n, e.2]
def timC (t : TimD) : List Value := [.int .i64 t.d, .int .i64 t.n, .int .i64 t.s]
theorem pastC_len (e : PE) : (pastC e).length = 2 := rfl
theorem timC_len (e : TimD) : (timC e).length = 3 := rfl
structure GotPast (w : World) (base : Nat) (v : Value) (es : List PE) : Prop where
  own : w.ownsRow base 129 2 v es.length (es.flatMap pastC)
  got : ∀ e ∈ es, Is w base e.2 e.1.z
def GotTims (w : World) (base : Nat) (v : Value) (ts : List TimD) : Prop := w.ownsRow base 136 3 v ts.length (ts.flatMap timC)
theorem info_past : (Try.prog.info? 129).map (fun i => (i.zero, i.size, i.bytes)) = some (some (.agg #[.int .i64 0, .slice none 0 0]), 2, 32) := by kernel_rfl
theorem info_tim : (Try.prog.info? 136).map (fun i => (i.zero, i.size, i.bytes)) = some (some (.agg #[.int .i64 0, .int .i64 0, .int .i64 0]), 3, 24) := by kernel_rfl
theorem GotPast.nil (w : World) (base : Nat) : GotPast w base (.slice none 0 0) [] := ⟨World.ownsRow_nil _ _ _ _, fun e he => by cases he⟩
theorem GotTims.nil (w : World) (base : Nat) : GotTims w base (.slice none 0 0) [] := World.ownsRow_nil _ _ _ _
theorem GotPast.below {w w' : World} {base : Nat} {v : Value} {es : List PE} (h : GotPast w base v es) {B : Nat} (hb : Below B w w') (hB : w.heap.size ≤ B) : GotPast w' base v es :=
  ⟨World.ownsRow.kept h.own (grown_of_below (hb.mono hB) none) (by cases v.ownBlock <;> simp), fun e he => Own.below (h.got e he) hb hB⟩
theorem GotTims.below {w w' : World} {base : Nat} {v : Value} {ts : List TimD} (h : GotTims w base v ts) {B : Nat} (hb : Below B w w') (hB : w.heap.size ≤ B) : GotTims w' base v ts :=
  World.ownsRow.kept h (grown_of_below (hb.mono hB) none) (by cases v.ownBlock <;> simp)
/-- A write into a block that holds neither ints nor places of the past. -/
theorem GotPast.grown {w w' : World} {base : Nat} {v : Value} {es : List PE} (h : GotPast w base v es) {row : Option Nat} (hg : w.grownBy w' row) (hr : ∀ r, row = some r → ∀ cs e, w.heap[r]? = some (.cells cs e (0, 0)) → e ≠ 129 ∧ e ≠ 3) : GotPast w' base v es := by
  refine ⟨World.ownsRow.kept h.own hg ?_, fun e he => Own.kept (h.got e he) hg ?_⟩
  · cases hv : v.ownBlock with
    | none => exact .inl rfl
    | some g =>
      refine .inr fun e => ?_
      obtain ⟨cs, hc⟩ := ownsRow_held h.own hv
      exact (hr g e.symm cs _ hc).1 rfl
  · cases hv : e.2.ownBlock with
    | none => exact .inl rfl
    | some g =>
      refine .inr fun e' => ?_
      obtain ⟨cs, hc⟩ := ownsRow_held (h.got e he) hv
      exact (hr g e'.symm cs _ hc).2 rfl
/-- The row of the past grows: the states stay. -/
theorem GotPast.push {w w1 w2 : World} {base : Nat} {v v' x : Value} {es : List PE} {p : PastD} (h : GotPast w1 base v es) (hx : Is w1 base x p.z)
    (hown : w2.ownsRow base 129 2 v' (es.length + 1) (es.flatMap pastC ++ [.int .i64 p.n, x])) (hg : w1.grownBy w2 v.ownBlock) : GotPast w2 base v' (es ++ [(p, x)]) := by
  have hk : ∀ (u : Value) (z : List Int), Is w1 base u z → Is w2 base u z := fun u z hu => by
    refine Own.kept hu hg ?_
    cases hv : u.ownBlock with
    | none => exact .inl rfl
    | some g =>
      refine .inr fun e => ?_
      obtain ⟨cs, hc⟩ := ownsRow_held hu hv
      obtain ⟨cs', hc'⟩ := ownsRow_held h.own e.symm
      rw [hc] at hc'
      simp at hc'
  refine ⟨by rw [flat_snoc, List.length_append]; exact hown, fun e he => ?_⟩
  rcases List.mem_append.1 he with he | he
  · exact hk _ _ (h.got e he)
  · simp only [List.mem_cons, List.not_mem_nil, or_false] at he
    subst he
    exact hk _ _ hx
theorem GotPast.mono {w : World} {base base' : Nat} {v : Value} {es : List PE} (h : GotPast w base v es) (hb : base' ≤ base) : GotPast w base' v es := by
  refine ⟨⟨h.own.1, ?_⟩, fun e he => Own.mono (h.got e he) hb⟩
  rcases h.own.2 with h2 | ⟨g, cap, cur, hv, hb2, r⟩
  · exact .inl h2
  · exact .inr ⟨g, cap, cur, hv, by omega, r⟩
theorem GotPast.rd {w : World} {base : Nat} {v : Value} {es : List PE} (h : GotPast w base v es) : ∃ A c, v = .slice A es.length c ∧ es.length ≤ c ∧ c ≤ 9223372036854775807 ∧ PastRd w w.heap.size A (es.map (·.1)) := by
  obtain ⟨A, c, rfl, h1, h2, h3⟩ := own_row_shape h.own
  refine ⟨A, c, rfl, h1, h2, fun k hk => ?_⟩
  rw [List.length_map] at hk
  obtain ⟨g, cur, rfl, _, hg, _, _, hc⟩ := h3 (by omega)
  have c0 := hc (k * 2 + 0) _ (by rw [flat_get pastC_len es k 0 hk (by omega)]; rfl)
  have c1 := hc (k * 2 + 1) _ (by rw [flat_get pastC_len es k 1 hk (by omega)]; rfl)
  obtain ⟨A', c', hv, h4, h5, h6⟩ := is_shape (h.got es[k] (List.getElem_mem hk))
  rw [List.getElem_map]
  rw [hv] at c1
  exact ⟨_, rfl, hg, k * 2, A', c', by rw [lit_add, Nat.zero_add], c0, c1, h6, h4, h5⟩
theorem GotTims.rd {w : World} {base : Nat} {v : Value} {ts : List TimD} (h : GotTims w base v ts) : ∃ A c, v = .slice A ts.length c ∧ ts.length ≤ c ∧ c ≤ 9223372036854775807 ∧ TimRd w w.heap.size A ts := by
  obtain ⟨A, c, rfl, h1, h2, h3⟩ := own_row_shape h
  refine ⟨A, c, rfl, h1, h2, fun k hk => ?_⟩
  obtain ⟨g, cur, rfl, _, hg, _, _, hc⟩ := h3 (by omega)
  have c0 := hc (k * 3 + 0) _ (by rw [flat_get timC_len ts k 0 hk (by omega)]; rfl)
  have c1 := hc (k * 3 + 1) _ (by rw [flat_get timC_len ts k 1 hk (by omega)]; rfl)
  have c2 := hc (k * 3 + 2) _ (by rw [flat_get timC_len ts k 2 hk (by omega)]; rfl)
  exact ⟨_, rfl, hg, k * 3, by rw [lit_add, Nat.zero_add], c0, c1, c2⟩
end Go.Proofs.Ytaadbklimfngiaa
