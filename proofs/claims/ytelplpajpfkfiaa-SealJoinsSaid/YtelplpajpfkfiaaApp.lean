/- append laws whose frame is one fixed world: what lay in it stays. No condition. -/
import Derived.Test.YtelplpajpfkfiaaTot
set_option linter.unusedVariables false
namespace Go.Proofs.Ytelplpajpfkfiaa
open Go.RowKit Oct

/-- '[]T{}'. -/
theorem own_nothing (w : World) (base : Nat) (e : TypeId) (hb : base ≤ w.heap.size) : Own (w.alloc (.cells #[] e)) base e (.slice (some ⟨w.heap.size, 0, none⟩) 0 0) [] := World.ownsRow_made w #[] 0 hb (by simp [maxLen]) (by simp)

theorem is_shape {w : World} {base : Nat} {v : Value} {z : List Int} (h : Is w base v z) : ∃ A c, v = .slice A z.length c ∧ z.length ≤ c ∧ c ≤ 9223372036854775807 ∧ Rd w w.heap.size A (z.map (Value.int .i64)) := by
  obtain ⟨A, c, hv, hc, hm, hr⟩ := Own.shape h
  rw [List.length_map] at hv hc
  exact ⟨A, c, hv, hc, by unfold maxLen at hm; omega, hr⟩

section
variable {P : Program} {W w : World} {ops : Array Oper} {rest : List Oper} {o : Oper} {a : Act} {Q : Exit → Act → World → Prop}

/-- 'append([]T{}, xs...)'. -/
theorem wpList_app0 (hgd : o.guard = none) (s x : Operand) (t : TypeId)
    (ho : o.op = .call { callee := .builtin .append, args := #[s, x], argTypes := #[t, t] })
    (e : TypeId) (z : Value) (bytes : Nat) (ht : P.underlying t = some (.slice e)) (hinfo : (P.info? e).map (fun i => (i.zero, i.size, i.bytes)) = some (some z, 1, bytes)) (hzs : z.cells.size = 1)
    (hs : a.eval s = .slice (some ⟨W.heap.size, 0, none⟩) 0 0)
    (A : Option Addr) (m c : Nat) (news : List Value) (hx : a.eval x = .slice A m c) (hm : m = news.length) (hr : Rd W W.heap.size A news) (h1 : ∀ u ∈ news, u.oneCell' = true)
    (h63 : m ≤ 9223372036854775807) (hbytes : m * bytes ≤ 140737488355328)
    (h : ∀ v' w', Own w' W.heap.size e v' news → Below W.heap.size W w' → wpList P ops Q rest (a.put o.dst v') w') : wpList P ops Q (o :: rest) a (W.alloc (.cells #[] e)) := by
  have hown := own_nothing W W.heap.size e (Nat.le_refl _)
  refine wpList_append_any hgd s x t ho W.heap.size e z bytes ht hinfo hzs _ [] hs hown W.heap.size A m c news hx hm (hr.alloc (Nat.le_refl _) _) h1 (by unfold maxLen; simp; omega) (by simpa using hbytes) (by simp) fun v' w' h2 h3 h4 => ?_
  exact h v' w' (by simpa using h2) (((Below.refl _ W).alloc (Nat.le_refl _) _).grown h3 (by simp) fun k hk => (hown.lt k hk).1)

/-- 'v = append(v, xs...)'. -/
theorem wpList_app1 (hgd : o.guard = none) (s x : Operand) (t : TypeId)
    (ho : o.op = .call { callee := .builtin .append, args := #[s, x], argTypes := #[t, t] })
    (e : TypeId) (z : Value) (bytes : Nat) (ht : P.underlying t = some (.slice e)) (hinfo : (P.info? e).map (fun i => (i.zero, i.size, i.bytes)) = some (some z, 1, bytes)) (hzs : z.cells.size = 1)
    (v : Value) (xs : List Value) (hs : a.eval s = v) (base : Nat) (hb : Below base W w) (hbs : base ≤ W.heap.size) (hown : Own w base e v xs)
    (B : Nat) (A : Option Addr) (m c : Nat) (news : List Value) (hx : a.eval x = .slice A m c) (hm : m = news.length) (hr : Rd w B A news) (h1 : ∀ u ∈ news, u.oneCell' = true)
    (h63 : xs.length + m ≤ 9223372036854775807) (hbytes : (xs.length + m) * bytes ≤ 140737488355328)
    (h : ∀ v' w', Own w' base e v' (xs ++ news) → Below base W w' → wpList P ops Q rest (a.put o.dst v') w') : wpList P ops Q (o :: rest) a w :=
  wpList_append_any hgd s x t ho base e z bytes ht hinfo hzs v xs hs hown B A m c news hx hm hr h1 (by unfold maxLen; omega) hbytes (Nat.le_trans hbs hb.size) fun v' w' h2 h3 h4 =>
    h v' w' h2 (hb.grown h3 (Nat.le_trans hbs hb.size) fun k hk => (hown.lt k hk).1)

/-- 'v = append(v, x)'. -/
theorem wpList_push1 (hgd : o.guard = none) (s x : Operand) (t : TypeId)
    (ho : o.op = .call { callee := .builtin .append, args := #[s, x], argTypes := #[t, t] })
    (e : TypeId) (z : Value) (bytes : Nat) (ht : P.underlying t = some (.slice e)) (hinfo : (P.info? e).map (fun i => (i.zero, i.size, i.bytes)) = some (some z, 1, bytes)) (hzs : z.cells.size = 1)
    (v : Value) (xs : List Value) (u u' : Value) (hu : u = u') (hs : a.eval s = v) (base : Nat) (hb : Below base W w) (hbs : base ≤ W.heap.size) (hown : Own w base e v xs)
    (hx : a.eval x = .slice (some ⟨w.heap.size, 0, none⟩) 1 1) (h1 : u.oneCell' = true)
    (hlen : xs.length + 1 ≤ 9223372036854775807) (hbytes : (xs.length + 1) * bytes ≤ 140737488355328)
    (h : ∀ v' w', Own w' base e v' (xs ++ [u']) → Below base W w' → wpList P ops Q rest (a.put o.dst v') w') : wpList P ops Q (o :: rest) a (w.alloc (.cells #[u] e)) :=
  wpList_push hgd s x t ho base e z bytes ht hinfo hzs v xs u u' hu hs hown hx h1 hlen hbytes (Nat.le_trans hbs hb.size) fun v' w' h2 h3 h4 =>
    h v' w' h2 (hb.grown h3 (Nat.le_trans hbs hb.size) fun k hk => (hown.lt k hk).1)
end
end Go.Proofs.Ytelplpajpfkfiaa
