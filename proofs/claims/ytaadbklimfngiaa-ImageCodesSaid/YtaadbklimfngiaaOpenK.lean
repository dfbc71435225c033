/- Opening arguments that are snapshots and pieces. No condition. -/
import Derived.Test.YtaadbklimfngiaaOpen
import Derived.Test.YtaadbklimfngiaaOpenR
import Derived.Lib.SmallJoins
import Derived.Deep.Fields
set_option linter.unusedVariables false
namespace Go.Proofs.Ytaadbklimfngiaa
open Go.ChangeShapes Go.WideShapes Go.ChangeAt Go.RowKit Go.Joins Go.Deep Oct

section
variable {H : Type} {enc : TypeId × Value → H} {P : Program} {W : World} {base : Nat}

/-- A cell that reads as a slice of one-cell integers. -/
theorem open_row_cell {t e : TypeId} {k : IntKind} (ht : P.underlying t = some (.slice e)) (he : P.underlying e = some (.int k)) (hc : P.cellsOf e = 1)
    {v : Value} {fuel : Nat} {y : DataW H × List MemPlace} (hf : DataW.trod enc P W 0 (fun _ => true) true fuel t [v] = some y) (hw : ∀ n ∈ y.1.weights P t, n ≤ reachBytes) :
    ∃ (A : Option Addr) (z : List Int) (c : Nat), v = .slice A z.length c ∧ Rd W W.heap.size A (z.map (Value.int k)) ∧ z.length ≤ c ∧ c * P.bytesOf e ≤ reachBytes ∧ ∀ n ∈ z, (Lit.int k n).wf = true := by
  rcases open_ints ht he hc hf with ⟨hcs, hx⟩ | ⟨a, l, c, zs, hcs, _, hl, hm, hz, hx, hcell, hwz⟩
  · simp at hcs
    subst hcs
    exact ⟨none, [], 0, rfl, Rd.none_, by simp, by simp, by simp⟩
  · simp at hcs
    subst hcs
    subst hx
    simp only [if_true] at hz
    have hlen : (zs.take l).length = l := by simp; omega
    refine ⟨some a, zs.take l, c, by rw [hlen], ?_, by omega, ?_, fun n hn => hwz n (List.mem_of_mem_take hn)⟩
    · intro h0
      have h1 : 0 < zs.length := by
        rw [List.length_map, hlen] at h0
        omega
      refine ⟨a, rfl, ?_, fun j u hu => ?_⟩
      · exact World.block_lt_of_cell? W a (by have := hcell 0 h1; simpa [Addr.add] using this)
      · rw [List.getElem?_map] at hu
        obtain ⟨n, hn, rfl⟩ := Option.map_eq_some_iff.1 hu
        rw [List.getElem?_take] at hn
        split at hn
        · have hj : j < zs.length := (List.getElem?_eq_some_iff.1 hn).1
          rw [hcell j hj]
          simp [List.getD, hn]
        · cases hn
    · have := hw (((lits (H := H) k (zs.take l)).length + (lits (H := H) k (zs.drop l)).length) * P.bytesOf e) (by simp [DataW.weights, ht])
      simp only [lits, List.length_map, List.length_take, List.length_drop] at this
      rw [show min l zs.length + (zs.length - l) = c by omega] at this
      exact this
theorem bytes_cell {t e : TypeId} (ht : P.underlying t = some (.slice e)) (he : P.underlying e = some (.int .u8)) (hc : P.cellsOf e = 1) (hby : P.bytesOf e = 1)
    {v : Value} {fuel : Nat} {y : DataW H × List MemPlace} (hf : DataW.trod enc P W 0 (fun _ => true) true fuel t [v] = some y) (hw : ∀ n ∈ y.1.weights P t, n ≤ reachBytes) :
    ∃ (A : Option Addr) (l : List UInt8) (c : Nat), v = .slice A l.length c ∧ In8 W A l c := by
  obtain ⟨A, z, c, rfl, hr, hl, hcap, hwf⟩ := open_row_cell ht he hc hf hw
  refine ⟨A, z.map fun n => UInt8.ofNat n.toNat, c, by rw [List.length_map], ⟨by rw [← map_u8 z hwf]; exact hr, by rw [List.length_map]; exact hl, ?_⟩⟩
  rw [hby] at hcap
  simp only [reachBytes] at hcap
  omega
theorem ints_cell {t e : TypeId} (ht : P.underlying t = some (.slice e)) (he : P.underlying e = some (.int .i64)) (hc : P.cellsOf e = 1) (hby : P.bytesOf e = 8)
    {v : Value} {fuel : Nat} {y : DataW H × List MemPlace} (hf : DataW.trod enc P W 0 (fun _ => true) true fuel t [v] = some y) (hw : ∀ n ∈ y.1.weights P t, n ≤ reachBytes) :
    ∃ (A : Option Addr) (z : List Int) (c : Nat), v = .slice A z.length c ∧ InInts W A z c := by
  obtain ⟨A, z, c, rfl, hr, hl, hcap, hwf⟩ := open_row_cell ht he hc hf hw
  refine ⟨A, z, c, rfl, ⟨hr, hl, ?_, fun n hn => bd_i64 (hwf n hn)⟩⟩
  rw [hby] at hcap
  simp only [reachBytes] at hcap
  omega
theorem int_cell {t : TypeId} (ht : P.underlying t = some (.int .i64)) {v : Value} {fuel : Nat} {y : DataW H × List MemPlace} (hf : DataW.trod enc P W 0 (fun _ => true) true fuel t [v] = some y) :
    ∃ a : Int, v = .int .i64 a ∧ -9223372036854775808 ≤ a ∧ a ≤ 9223372036854775807 := by
  obtain ⟨a, h1, _, h2⟩ := DataW.trod_int ht hf
  simp at h1
  exact ⟨a, h1, bd_i64 h2⟩

/-- A snapshot by value. -/
theorem open_snap {t e q : TypeId} {f0 f1 f2 f3 : Field} (hs : P.underlying t = some (.struct #[f0, f1, f2, f3])) (hone : oneCellFields P #[f0, f1, f2, f3] = true) (hC : P.cellsOf t = 4)
    (u0 : P.underlying f0.type = some (.int .i64)) (u1 : P.underlying f1.type = some (.int .i64)) (u2 : P.underlying f2.type = some (.slice e)) (ue : P.underlying e = some (.int .i64)) (ce : P.cellsOf e = 1) (be : P.bytesOf e = 8)
    (u3 : P.underlying f3.type = some (.slice q)) (uq : P.underlying q = some (.int .u8)) (cq : P.cellsOf q = 1) (bq : P.bytesOf q = 1)
    {v : Value} {d : DataW H} {p : List MemPlace} (hv : Value.okWide P W .any base t v) (h : DataW.Trod enc P W 0 (fun _ => true) true t v d p) (hw : ∀ n ∈ d.weights P t, n ≤ reachBytes) :
    ∃ (a b : Int) (A : Option Addr) (z : List Int) (c : Nat) (B : Option Addr) (l : List UInt8) (m : Nat), v = .agg #[.int .i64 a, .int .i64 b, .slice A z.length c, .slice B l.length m] ∧
      (-9223372036854775808 ≤ a ∧ a ≤ 9223372036854775807) ∧ (-9223372036854775808 ≤ b ∧ b ≤ 9223372036854775807) ∧ InInts W A z c ∧ In8 W B l m := by
  obtain ⟨v0, v1, v2, v3, y0, y1, y2, y3, n, rfl, rfl, _, t0, t1, t2, t3⟩ := open_agg4 hs hone hC hv h
  have hww : ∀ n, n ∈ y2.1.weights P f2.type ∨ n ∈ y3.1.weights P f3.type → n ≤ reachBytes := fun n hn => hw n (by
    simp only [DataW.weights, hs]
    simp only [List.map_cons, List.map_nil, DataW.weightsEach, List.mem_append]
    rcases hn with hn | hn
    · exact .inr (.inr (.inl hn))
    · exact .inr (.inr (.inr (.inl hn))))
  obtain ⟨a, rfl, ha⟩ := int_cell u0 t0
  obtain ⟨b, rfl, hb⟩ := int_cell u1 t1
  obtain ⟨A, z, c, rfl, hz⟩ := ints_cell u2 ue ce be t2 (fun n hn => hww n (.inl hn))
  obtain ⟨B, l, m, rfl, hl⟩ := bytes_cell u3 uq cq bq t3 (fun n hn => hww n (.inr hn))
  exact ⟨a, b, A, z, c, B, l, m, rfl, ha, hb, hz, hl⟩
end
end Go.Proofs.Ytaadbklimfngiaa
