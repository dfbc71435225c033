/- Opening arguments that are snapshots and pieces. No condition. -/
import Derived.Test.YteehkcpokgeipaaGreatDoorOpen
import Derived.Test.YteehkcpokgeipaaGreatDoorOpenR
import Derived.Lib.SmallJoins
import Derived.Deep.Fields
set_option linter.unusedVariables false
namespace Go.Proofs.YteehkcpokgeipaaGreatDoor
open Go.ChangeShapes Go.WideShapes Go.ChangeAt Go.RowKit Go.Joins Go.Deep Oct

section
variable {H : Type} {enc : TypeId × Value → H} {P : Program} {W : World} {base : Nat}

/-- A cell that reads as a slice of one-cell integers. -/
theorem open_row_cell {t e : TypeId} {k : IntKind} (ht : P.underlying t = some (.slice e)) (he : P.underlying e = some (.int k)) (hc : P.cellsOf e = 1)
    {v : Value} {fuel : Nat} {y : DataW H × List MemPlace} (hf : DataW.trod enc P W 0 (fun _ => true) true fuel t [v] = some y) (hw : ∀ n ∈ y.1.weights P t, n ≤ reachBytes) :
    ∃ (A : Option Addr) (z : List Int) (c : Nat), v = .slice A z.length c ∧ Rd W W.heap.size A (z.map (Value.int k)) ∧ z.length ≤ c ∧ c * P.bytesOf e ≤ reachBytes ∧ ∀ n ∈ z, (Lit.int k n).wf = true := by
  rcases open_ints ht he hc hf with ⟨hcs, hx⟩ | ⟨a, l, c, zs, hcs, _, hl, hm, hz, hx, hcell, hwz⟩
  · simp at hcs
    subst hcs
    exact ⟨none, [], 0, rfl, Rd.none_, by simp, by simp, by simp⟩
  · simp at hcs
    subst hcs
    subst hx
    simp only [if_true] at hz
    have hlen : (zs.take l).length = l := by simp; omega
    refine ⟨some a, zs.take l, c, by rw [hlen], ?_, by omega, ?_, fun n hn => hwz n (List.mem_of_mem_take hn)⟩
    · intro h0
      have h1 : 0 < zs.length := by
        rw [List.length_map, hlen] at h0
        omega
      refine ⟨a, rfl, ?_, fun j u hu => ?_⟩
      · exact World.block_lt_of_cell? W a (by have := hcell 0 h1; simpa [Addr.add] using this)
      · rw [List.getElem?_map] at hu
        obtain ⟨n, hn, rfl⟩ := Option.map_eq_some_iff.1 hu
        rw [List.getElem?_take] at hn
        split at hn
        · have hj : j < zs.length := (List.getElem?_eq_some_iff.1 hn).1
          rw [hcell j hj]
          simp [List.getD, hn]
        · cases hn
    · have := hw (((lits (H := H) k (zs.take l)).length + (lits (H := H) k (zs.drop l)).length) * P.bytesOf e) (by simp [DataW.weights, ht])
      simp only [lits, List.length_map, List.length_take, List.length_drop] at this
      rw [show min l zs.length + (zs.length - l) = c by omega] at this
      exact this
theorem bytes_cell {t e : TypeId} (ht : P.underlying t = some (.slice e)) (he : P.underlying e = some (.int .u8)) (hc : P.cellsOf e = 1) (hby : P.bytesOf e = 1)
    {v : Value} {fuel : Nat} {y : DataW H × List MemPlace} (hf : DataW.trod enc P W 0 (fun _ => true) true fuel t [v] = some y) (hw : ∀ n ∈ y.1.weights P t, n ≤ reachBytes) :
    ∃ (A : Option Addr) (l : List UInt8) (c : Nat), v = .slice A l.length c ∧ In8 W A l c := by
  obtain ⟨A, z, c, rfl, hr, hl, hcap, hwf⟩ := open_row_cell ht he hc hf hw
  refine ⟨A, z.map fun n => UInt8.ofNat n.toNat, c, by rw [List.length_map], ⟨by rw [← map_u8 z hwf]; exact hr, by rw [List.length_map]; exact hl, ?_⟩⟩
  rw [hby] at hcap
  simp only [reachBytes] at hcap
  omega
theorem ints_cell {t e : TypeId} (ht : P.underlying t = some (.slice e)) (he : P.underlying e = some (.int .i64)) (hc : P.cellsOf e = 1) (hby : P.bytesOf e = 8)
    {v : Value} {fuel : Nat} {y : DataW H × List MemPlace} (hf : DataW.trod enc P W 0 (fun _ => true) true fuel t [v] = some y) (hw : ∀ n ∈ y.1.weights P t, n ≤ reachBytes) :
    ∃ (A : Option Addr) (z : List Int) (c : Nat), v = .slice A z.length c ∧ InInts W A z c := by
  obtain ⟨A, z, c, rfl, hr, hl, hcap, hwf⟩ := open_row_cell ht he hc hf hw
  refine ⟨A, z, c, rfl, ⟨hr, hl, ?_, fun n hn => bd_i64 (hwf n hn)⟩⟩
  rw [hby] at hcap
  simp only [reachBytes] at hcap
  omega
theorem int_cell {t : TypeId} (ht : P.underlying t = some (.int .i64)) {v : Value} {fuel : Nat} {y : DataW H × List MemPlace} (hf : DataW.trod enc P W 0 (fun _ => true) true fuel t [v] = some y) :
    ∃ a : Int, v = .int .i64 a ∧ -9223372036854775808 ≤ a ∧ a ≤ 9223372036854775807 := by
  obtain ⟨a, h1, _, h2⟩ := DataW.trod_int ht hf
  simp at h1
  exact ⟨a, h1, bd_i64 h2⟩

/-- A snapshot by value. -/
theorem open_snap {t e q : TypeId} {f0 f1 f2 f3 : Field} (hs : P.underlying t = some (.struct #[f0, f1, f2, f3])) (hone : oneCellFields P #[f0, f1, f2, f3] = true) (hC : P.cellsOf t = 4)
    (u0 : P.underlying f0.type = some (.int .i64)) (u1 : P.underlying f1.type = some (.int .i64)) (u2 : P.underlying f2.type = some (.slice e)) (ue : P.underlying e = some (.int .i64)) (ce : P.cellsOf e = 1) (be : P.bytesOf e = 8)
    (u3 : P.underlying f3.type = some (.slice q)) (uq : P.underlying q = some (.int .u8)) (cq : P.cellsOf q = 1) (bq : P.bytesOf q = 1)
    {v : Value} {d : DataW H} {p : List MemPlace} (hv : Value.okWide P W .any base t v) (h : DataW.Trod enc P W 0 (fun _ => true) true t v d p) (hw : ∀ n ∈ d.weights P t, n ≤ reachBytes) :
    ∃ (a b : Int) (A : Option Addr) (z : List Int) (c : Nat) (B : Option Addr) (l : List UInt8) (m : Nat), v = .agg #[.int .i64 a, .int .i64 b, .slice A z.length c, .slice B l.length m] ∧
      (-9223372036854775808 ≤ a ∧ a ≤ 9223372036854775807) ∧ (-9223372036854775808 ≤ b ∧ b ≤ 9223372036854775807) ∧ InInts W A z c ∧ In8 W B l m := by
  obtain ⟨v0, v1, v2, v3, y0, y1, y2, y3, n, rfl, rfl, _, t0, t1, t2, t3⟩ := open_agg4 hs hone hC hv h
  have hww : ∀ n, n ∈ y2.1.weights P f2.type ∨ n ∈ y3.1.weights P f3.type → n ≤ reachBytes := fun n hn => hw n (by
    simp only [DataW.weights, hs]
    simp only [List.map_cons, List.map_nil, DataW.weightsEach, List.mem_append]
    rcases hn with hn | hn
    · exact .inr (.inr (.inl hn))
    · exact .inr (.inr (.inr (.inl hn))))
  obtain ⟨a, rfl, ha⟩ := int_cell u0 t0
  obtain ⟨b, rfl, hb⟩ := int_cell u1 t1
  obtain ⟨A, z, c, rfl, hz⟩ := ints_cell u2 ue ce be t2 (fun n hn => hww n (.inl hn))
  obtain ⟨B, l, m, rfl, hl⟩ := bytes_cell u3 uq cq bq t3 (fun n hn => hww n (.inr hn))
  exact ⟨a, b, A, z, c, B, l, m, rfl, ha, hb, hz, hl⟩
end
end Go.Proofs.YteehkcpokgeipaaGreatDoor

/- Opening an argument that is a slice of pieces. No condition. -/
set_option linter.unusedVariables false
namespace Go.Proofs.YteehkcpokgeipaaGreatDoor
open Go.ChangeShapes Go.WideShapes Go.ChangeAt Go.RowKit Go.Joins Go.Deep Oct

/-- A piece that came in. -/
structure Pc where
  i : Int
  t : Int
  n : Int
  m : Int
  A : Option Addr
  l : List UInt8
  c : Nat
def PcGood (w : World) (ad : Addr) (k : Nat) (p : Pc) : Prop :=
  w.cell? ((ad.add (k * 5)).add 0) = some (.int .i64 p.i) ∧ w.cell? ((ad.add (k * 5)).add 1) = some (.int .i64 p.t) ∧ w.cell? ((ad.add (k * 5)).add 2) = some (.int .i64 p.n) ∧ w.cell? ((ad.add (k * 5)).add 3) = some (.int .i64 p.m) ∧ w.cell? ((ad.add (k * 5)).add 4) = some (.slice p.A p.l.length p.c) ∧
  (-9223372036854775808 ≤ p.i ∧ p.i ≤ 9223372036854775807) ∧ (-9223372036854775808 ≤ p.t ∧ p.t ≤ 9223372036854775807) ∧ (-9223372036854775808 ≤ p.n ∧ p.n ≤ 9223372036854775807) ∧ (-9223372036854775808 ≤ p.m ∧ p.m ≤ 9223372036854775807) ∧ In8 w p.A p.l p.c
theorem pc_lit {w : World} {ad : Addr} {k : Nat} {p : Pc} (h : PcGood w ad k p) : ∃ o, ad.add (k * 5) = ⟨ad.block, o, none⟩ ∧ w.cell? ⟨ad.block, o, none⟩ = some (.int .i64 p.i) ∧ w.cell? ⟨ad.block, o + 1, none⟩ = some (.int .i64 p.t) ∧ w.cell? ⟨ad.block, o + 2, none⟩ = some (.int .i64 p.n) ∧ w.cell? ⟨ad.block, o + 3, none⟩ = some (.int .i64 p.m) ∧ w.cell? ⟨ad.block, o + 4, none⟩ = some (.slice p.A p.l.length p.c) := by
  obtain ⟨h0, h1, h2, h3, h4, _⟩ := h
  have hx : ∃ o, ad.add (k * 5) = ⟨ad.block, o, none⟩ := by
    have e : (ad.add (k * 5)).add 0 = ad.add (k * 5) := rfl
    rw [e] at h0
    have hb := block_of_add ad (k * 5)
    generalize ad.add (k * 5) = x at h0 hb
    obtain ⟨b, o, s⟩ := x
    cases s with
    | none => exact ⟨o, by rw [← hb]⟩
    | some s =>
      exfalso
      unfold World.cell? at h0
      split at h0 <;> simp at h0
  obtain ⟨o, ho⟩ := hx
  rw [ho] at h0 h1 h2 h3 h4
  exact ⟨o, ho, h0, h1, h2, h3, h4⟩
/-- Pieces that came in. -/
structure InPcs (w : World) (A : Option Addr) (ps : List Pc) (c : Nat) : Prop where
  at_ : ∀ k (hk : k < ps.length), ∃ ad, A = some ad ∧ ad.block < w.heap.size ∧ PcGood w ad k ps[k]
  le : ps.length ≤ c
  cap : c * 56 ≤ 140737488351232
theorem list_of {α : Type} {G : Nat → α → Prop} : ∀ n, (∀ k, k < n → ∃ p, G k p) → ∃ ps : List α, ps.length = n ∧ ∀ k (hk : k < ps.length), G k ps[k]
  | 0, _ => ⟨[], rfl, fun k hk => absurd hk (by simp)⟩
  | n + 1, h => by
    obtain ⟨ps, h1, h2⟩ := list_of n (fun k hk => h k (by omega))
    obtain ⟨p, hp⟩ := h n (by omega)
    refine ⟨ps ++ [p], by simp [h1], fun k hk => ?_⟩
    by_cases hlt : k < ps.length
    · rw [List.getElem_append_left hlt]; exact h2 k hlt
    · have : k = n := by simp at hk; omega
      subst this
      rw [List.getElem_append_right (by omega)]
      simpa [h1] using hp

section
variable {H : Type} {enc : TypeId × Value → H} {P : Program} {W : World} {base : Nat}
theorem open_pcs {t e q : TypeId} {f0 f1 f2 f3 f4 : Field} (ht : P.underlying t = some (.slice e)) (he : P.underlying e = some (.struct #[f0, f1, f2, f3, f4])) (hone : oneCellFields P #[f0, f1, f2, f3, f4] = true) (hC : P.cellsOf e = 5) (be : P.bytesOf e = 56)
    (u0 : P.underlying f0.type = some (.int .i64)) (u1 : P.underlying f1.type = some (.int .i64)) (u2 : P.underlying f2.type = some (.int .i64)) (u3 : P.underlying f3.type = some (.int .i64)) (u4 : P.underlying f4.type = some (.slice q)) (uq : P.underlying q = some (.int .u8)) (cq : P.cellsOf q = 1) (bq : P.bytesOf q = 1)
    {v : Value} {d : DataW H} {p : List MemPlace} (hv : Value.okWide P W .any base t v) (h : DataW.Trod enc P W 0 (fun _ => true) true t v d p) (hw : ∀ n ∈ d.weights P t, n ≤ reachBytes) :
    ∃ (A : Option Addr) (ps : List Pc) (c : Nat), v = .slice A ps.length c ∧ InPcs W A ps c := by
  obtain ⟨A, len, cap, rfl⟩ := okWide_slice ht hv
  obtain ⟨fuel, hf⟩ := h
  rcases open_slice ht hf with ⟨hcs, hx⟩ | ⟨a, l, c, m, n, D, Pl, hcs, _, hl, hm, hmm, hx, hi⟩
  · simp [Value.cells] at hcs
    obtain ⟨rfl, rfl, rfl⟩ := hcs
    exact ⟨none, [], 0, rfl, ⟨fun k hk => absurd hk (by simp), by simp, by simp⟩⟩
  · simp [Value.cells] at hcs
    obtain ⟨rfl, rfl, rfl⟩ := hcs
    simp only [if_true] at hmm
    subst hmm
    simp only [Prod.mk.injEq] at hx
    obtain ⟨rfl, rfl⟩ := hx
    have hcap : m * 56 ≤ 140737488351232 := by
      have := hw (((List.range len).length + (List.range (m - len)).length) * P.bytesOf e) (by simp [DataW.weights, ht])
      simp only [List.length_range, reachBytes, be] at this
      rw [show len + (m - len) = m by omega] at this
      omega
    obtain ⟨ps, hps, hgood⟩ := list_of (G := fun k p => PcGood W a k p) len (fun k hk => by
      obtain ⟨cs', hc, ht'⟩ := hi k (by omega)
      rw [hC] at hc
      obtain ⟨ys, n', _, hy, hlen, hyl, hfl⟩ := DataW.trod_struct he ht'
      obtain ⟨_, hcl, hat⟩ := World.cells?_some hc
      have hDw : ∀ x ∈ (D k).weights P e, x ≤ reachBytes := fun x hx => hw x (by
        simp only [DataW.weights, ht]
        exact List.mem_cons_of_mem _ (List.mem_append_left _ (weights_mem_all (List.mem_map.2 ⟨k, List.mem_range.2 hk, rfl⟩) hx)))
      simp only [Prod.mk.injEq] at hy
      match cs', hcl, ys, hyl with
      | [c0, c1, c2, c3, c4], _, [y0, y1, y2, y3, y4], _ =>
        obtain ⟨o0, k0⟩ := hone_of hone 0 f0 rfl
        obtain ⟨o1, k1⟩ := hone_of hone 1 f1 rfl
        obtain ⟨o2, k2⟩ := hone_of hone 2 f2 rfl
        obtain ⟨o3, k3⟩ := hone_of hone 3 f3 rfl
        obtain ⟨o4, k4⟩ := hone_of hone 4 f4 rfl
        have t0 := hfl 0 f0 rfl
        have t1 := hfl 1 f1 rfl
        have t2 := hfl 2 f2 rfl
        have t3 := hfl 3 f3 rfl
        have t4 := hfl 4 f4 rfl
        simp [o0, k0] at t0
        simp [o1, k1] at t1
        simp [o2, k2] at t2
        simp [o3, k3] at t3
        simp [o4, k4] at t4
        obtain ⟨i, rfl, hib⟩ := int_cell u0 t0
        obtain ⟨tt, rfl, htb⟩ := int_cell u1 t1
        obtain ⟨nn, rfl, hnb⟩ := int_cell u2 t2
        obtain ⟨mm, rfl, hmb⟩ := int_cell u3 t3
        obtain ⟨B, lb, cb, rfl, hB⟩ := bytes_cell u4 uq cq bq t4 (fun x hx => hDw x (by
          rw [hy.1]
          simp only [DataW.weights, he, List.map_cons, List.map_nil, DataW.weightsEach, List.mem_append]
          exact .inr (.inr (.inr (.inr (.inl hx))))))
        exact ⟨⟨i, tt, nn, mm, B, lb, cb⟩, hat 0 (by omega), hat 1 (by omega), hat 2 (by omega), hat 3 (by omega), hat 4 (by omega), hib, htb, hnb, hmb, hB⟩)
    refine ⟨some a, ps, m, by rw [hps], ⟨fun k hk => ⟨a, rfl, ?_, hgood k hk⟩, by omega, hcap⟩⟩
    have h1 := World.block_lt_of_cell? W _ (hgood k hk).1
    rwa [block_of_add, block_of_add] at h1
end
end Go.Proofs.YteehkcpokgeipaaGreatDoor
