/- 'append(v, q...)' where v was handed out: there may be room, or not. No condition. -/
import Derived.Test.YtgeofijddhflaaaGreatDoorQDiskRm
import Derived.ArgAppend
set_option linter.unusedVariables false
namespace Go.Proofs.YtgeofijddhflaaaGreatDoor
open Go.RowKit Oct
theorem blk_setCells {T : TypeId} {g : Nat} : ∀ (vs : List Value) (o : Nat) (w : World) (cur : Array Value), Blk w g T cur → ∃ cur', Blk (w.setCells g o vs) g T cur' ∧ cur'.size = cur.size ∧ (∀ j, j < o → cur'[j]? = cur[j]?) ∧ (∀ j (hj : j < vs.length), o + vs.length ≤ cur.size → cur'[o + j]? = some vs[j])
 | [], o, w, cur, h => ⟨cur, h, rfl, fun _ _ => rfl, fun j hj => absurd hj (by simp)⟩
 | v :: r, o, w, cur, h => by
  obtain ⟨cur', h1, h2, h3, h4⟩ := blk_setCells r (o + 1) (w.setCell ⟨g, o, none⟩ v) _ (Blk.set_ h o v)
  refine ⟨cur', h1, by rw [h2]; simp, fun j hj => ?_, fun j hj hs => ?_⟩
  ·rw [h3 j (by omega), Array.getElem?_setIfInBounds, if_neg (by omega)]
  ·cases j with
   | zero =>
    rw [Nat.add_zero, h3 o (by omega), Array.getElem?_setIfInBounds, if_pos rfl, if_pos (by simp at hs; omega)]
    rfl
   | succ j =>
    have h5 := h4 j (by simpa using hj) (by simp at hs ⊢; omega)
    rw [show o + (j + 1) = o + 1 + j by omega, h5]
    rfl
theorem grown_setCells (g : Nat) : ∀ (vs : List Value) (o : Nat) (w : World), w.grownBy (w.setCells g o vs) (some g)
 | [], o, w => grown_of_below (Below.refl _ _) _
 | v :: r, o, w => grown_then (grown_setCell w g o v) (grown_setCells g r (o + 1) _) (.inl rfl)
set_option maxRecDepth 100000 in
theorem run_append_got {w : World} (ty : TypeId) (base : Nat) (v : Value) (l : List UInt8) (hgot : Got w base v l) (B : Nat) (A : Option Addr) (c : Nat) (q : List UInt8) (hrd : Rd w B A (cells q)) (hlen : l.length + q.length ≤ 1099511627776) (hbase : base ≤ w.heap.size) :
  ∃ v' w', (Builtin.append_ #[34, 34] ty #[v, .slice A q.length c]).run Tryz.prog w = .ok v' w' ∧ Got w' base v' (l ++ q) ∧ w.grownBy w' v.ownBlock ∧ (∀ k, v'.ownBlock = some k → v.ownBlock = some k ∨ w.heap.size ≤ k) := by
 obtain ⟨i, hi, hz, hsize, hby⟩ := info_parts info_u8
 have hone : ∀ u ∈ cells q, u.oneCell' = true := bytes_oneCell q
 rcases Nat.eq_zero_or_pos q.length with h0 | h0
 ·have hq : q = [] := List.eq_nil_of_length_eq_zero h0
  subst hq
  refine ⟨v, w, ?_, by simpa using hgot, grown_of_below (Below.refl _ _) _, fun k hk => .inl hk⟩
  rcases hgot.row with hv | ⟨g', n, cap, cur, hv, _, _, _, hnc, _⟩
  ·subst hv
   cases A <;> simp [Builtin.append_, run_underlying Tryz.underlying34, sizeOf, typeInfo, hi, Builtin.lenOf, Builtin.firstCells, loadCells, loadCellsFrom]
  ·subst hv
   cases A <;> simp [Builtin.append_, run_underlying Tryz.underlying34, sizeOf, typeInfo, hi, Builtin.lenOf, Builtin.firstCells, hnc, storeCells, loadCells, loadCellsFrom]
 ·obtain ⟨ad, rfl, _, hc⟩ := hrd (by rw [cells_length]; exact h0)
  have hql : (cells q).length = q.length * 1 := by rw [cells_length, Nat.mul_one]
  obtain ⟨A0, c0, hv0, hle0, hcap0, hrd0⟩ := hgot.shape
  rcases hgot.row with hv | ⟨g', n, cap, cur, hv, hg', hblk, hcur, hnc, hcap⟩
  ·have hl0 : l = [] := by
    rw [hv0] at hv
    injection hv with _ hv _
    exact List.eq_nil_of_length_eq_zero hv
   subst hl0
   subst hv
   obtain ⟨v', w', hrun, h2, h3, _⟩ := run_append_own (P := Tryz.prog) w w.heap.size 34 ty 5 i (.int .u8 0) 1 1 Tryz.underlying34 hi hz hsize hby rfl (by decide) (.slice none 0 0) 0 [] (World.ownsRow_nil _ _ _ _) ad q.length c (cells q) hql hc hone (by unfold maxLen; omega) (by omega) (Nat.le_refl _)
   have hown : Bs w' w.heap.size v' q := by unfold Bs Own; rw [cells_length]; simpa using h2
   refine ⟨v', w', hrun, by simpa using (Got.of_own hown).mono hbase, h3, fun k hk => .inr ?_⟩
   exact (World.ownsRow.lt hown k hk).1
  ·have e12 := hv0.symm.trans hv
   injection e12 with e1 e2 e3
   subst e1 e2 e3
   subst hv0
   by_cases hroom : l.length + q.length ≤ c0
   ·have hcs : ∀ j, j < (cells q).length → (w.cell? ⟨g', 0 + l.length * i.size + j, none⟩).isSome = true := fun j hj => by
     rw [hsize, Nat.zero_add, Nat.mul_one, hblk.cell, Array.getElem?_eq_getElem (by rw [cells_length] at hj; omega)]
     rfl
    have hrun := run_append_room_cells (P := Tryz.prog) w 34 ty 5 i Tryz.underlying34 hi g' 0 l.length c0 ad q.length c (cells q) (by rw [hsize]; exact hql) hc hone hroom hcs (fun j hj => hblk.frozen _)
    rw [hsize, Nat.zero_add, Nat.mul_one] at hrun
    obtain ⟨cur', k1, k2, k3, k4⟩ := blk_setCells (cells q) l.length w cur hblk
    have hg1 := grown_setCells g' (cells q) l.length w
    refine ⟨_, _, hrun, ⟨⟨some ⟨g', 0, none⟩, c0, by rw [List.length_append], by rw [List.length_append]; exact hroom, hcap0, fun _ => ⟨_, rfl, k1.lt, fun j u hj => ?_⟩⟩, .inr ⟨g', _, c0, cur', rfl, hg', k1, by rw [k2]; exact hcur, by omega, hcap⟩⟩, by simpa [Value.ownBlock] using hg1, fun k hk => .inl (by simpa [Value.ownBlock] using hk)⟩
    rw [Addr.add_lit, Nat.zero_add, k1.cell]
    have hjl : j < l.length + q.length := by
     have := (List.getElem?_eq_some_iff.1 hj).1
     simpa [cells] using this
    by_cases hjn : j < l.length
    ·rw [k3 j hjn]
     have h5 : (cells l)[j]? = some u := by rw [← hj]; simp only [cells, List.map_append]; rw [List.getElem?_append_left (by rw [List.length_map]; exact hjn)]
     obtain ⟨ad0, ha0, _, hcl⟩ := hrd0 (by rw [cells_length]; omega)
     injection ha0 with ha0
     subst ha0
     have h6 := hcl j u h5
     rw [Addr.add_lit, Nat.zero_add, hblk.cell] at h6
     exact h6
    ·have h5 := k4 (j - l.length) (by rw [cells_length]; omega) (by rw [cells_length]; omega)
     rw [show l.length + (j - l.length) = j by omega] at h5
     rw [h5, ← hj]
     simp only [cells, List.map_append]
     rw [List.getElem?_append_right (by rw [List.length_map]; omega), List.length_map, ← List.getElem?_eq_getElem]
   ·have hcl' : ∀ j u, (cells l)[j]? = some u → w.cell? ((⟨g', 0, none⟩ : Addr).add j) = some u := fun j u hj => by
     obtain ⟨ad0, ha0, _, hcl⟩ := hrd0 (by
      have := (List.getElem?_eq_some_iff.1 hj).1
      omega)
     injection ha0 with ha0
     subst ha0
     exact hcl j u hj
    obtain ⟨v', w', hrun, r1, r2⟩ := run_append_arg_grows (P := Tryz.prog) w 34 ty 5 i (.int .u8 0) 1 1 Tryz.underlying34 hi hz hsize hby rfl (by decide) ⟨g', 0, none⟩ l.length c0 (cells l) (by rw [cells_length, Nat.mul_one]) hcl' ad q.length c (cells q) hql hc (by omega) (by unfold maxLen; omega) (by omega)
    have e : cells l ++ cells q = cells (l ++ q) := by simp [cells]
    rw [e] at r1
    have hown : Bs w' w.heap.size v' (l ++ q) := by unfold Bs Own; rw [cells_length, List.length_append]; exact r1
    exact ⟨v', w', hrun, (Got.of_own hown).mono hbase, grown_of_below (below_of_grown r2) _, fun k hk => .inr (World.ownsRow.lt hown k hk).1⟩
theorem wp_append_gotq {w : World} {o : Oper} {a : Act} {K : Act → World → Prop} {Q : Exit → Act → World → Prop} (s x : Operand)
  (ho : o.op = .call { callee := .builtin .append, args := #[s, x], argTypes := #[34, 34] })
  (base : Nat) (v : Value) (l : List UInt8) (hs : a.eval s = v) (hgot : Got w base v l) (B : Nat) (A : Option Addr) (c : Nat) (q : List UInt8) (hx : a.eval x = .slice A q.length c) (hrd : Rd w B A (cells q)) (hlen : l.length + q.length ≤ 1099511627776) (hbase : base ≤ w.heap.size)
  (h : ∀ v' w', Got w' base v' (l ++ q) → w.grownBy w' v.ownBlock → (∀ k, v'.ownBlock = some k → v.ownBlock = some k ∨ w.heap.size ≤ k) → K (a.put o.dst v') w') : o.wp Tryz.prog a w K Q := by
 obtain ⟨v', w', hrun, h1, h2, h3⟩ := run_append_got o.type base v l hgot B A c q hrd hlen hbase
 unfold Oper.wp execOp
 simp only [ho, resolve, invoke, builtin, Sem.run_bind, Sem.run_pure, Result.andThen_ok, List.map_toArray, List.map_cons, List.map_nil, hs, hx, hrun]
 exact h v' w' h1 h2 h3
end Go.Proofs.YtgeofijddhflaaaGreatDoor
