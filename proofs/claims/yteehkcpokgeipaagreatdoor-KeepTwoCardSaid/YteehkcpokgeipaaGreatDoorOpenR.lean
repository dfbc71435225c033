/- Opening an argument that is rows of bytes. No condition. -/
import Derived.Test.YteehkcpokgeipaaGreatDoorOpen
import Derived.Test.YteehkcpokgeipaaGreatDoorSum
import Derived.Deep.Matrix
set_option linter.unusedVariables false
namespace Go.Proofs.YteehkcpokgeipaaGreatDoor
open Go.ChangeShapes Go.WideShapes Go.ChangeAt Go.RowKit Oct

/-- Rows of bytes that came in. -/
structure InRows (w : World) (A : Option Addr) (ps : List Row) (c : Nat) : Prop where
  rd : Rd w w.heap.size A (ps.map Row.val)
  rows : RRd w w.heap.size ps
  fit : ∀ r ∈ ps, r.l.length ≤ 140737488351232 ∧ r.l.length ≤ r.c ∧ r.c ≤ 140737488351232
  le : ps.length ≤ c
  cap : c * 24 ≤ 140737488351232

theorem map_u8 (z : List Int) (hwf : ∀ n ∈ z, (Lit.int .u8 n).wf = true) : z.map (Value.int .u8) = cells (z.map fun n => UInt8.ofNat n.toNat) := by
  simp only [cells, List.map_map]
  refine List.map_congr_left fun n hn => ?_
  have h1 := hwf n hn
  simp [Lit.wf, IntKind.min, IntKind.max, IntKind.signed, IntKind.bits] at h1
  simp
  omega

section
variable {H : Type} {enc : TypeId × Value → H} {P : Program} {W : World} {base : Nat}

theorem weights_mem_all {e : TypeId} {n : Nat} {l : List (DataW H)} {d : DataW H} (hd : d ∈ l) (hn : n ∈ d.weights P e) : n ∈ DataW.weightsAll P e l := by
  induction l with
  | nil => cases hd
  | cons x r ih =>
    unfold DataW.weightsAll
    rcases List.mem_cons.1 hd with rfl | hd
    · exact List.mem_append_left _ hn
    · exact List.mem_append_right _ (ih hd)

theorem open_rows {t e q : TypeId} (ht : P.underlying t = some (.slice e)) (he : P.underlying e = some (.slice q)) (hq : P.underlying q = some (.int .u8)) (ce : P.cellsOf e = 1) (be : P.bytesOf e = 24) (cq : P.cellsOf q = 1) (bq : P.bytesOf q = 1)
    {v : Value} {d : DataW H} {p : List MemPlace} (hv : Value.okWide P W .any base t v) (h : DataW.Trod enc P W 0 (fun _ => true) true t v d p) (hw : ∀ n ∈ d.weights P t, n ≤ reachBytes) :
    ∃ (A : Option Addr) (ps : List Row) (c : Nat), v = .slice A ps.length c ∧ InRows W A ps c := by
  obtain ⟨A, len, cap, rfl⟩ := okWide_slice ht hv
  obtain ⟨fuel, hf⟩ := h
  rcases Go.Deep.open_int_rows ht he hq ce cq hf with ⟨hcs, hx⟩ | ⟨a, l, c, A', L, C, Z, hcs, _, hl, hm, hx, hcell⟩
  · simp [Value.cells] at hcs
    obtain ⟨rfl, rfl, rfl⟩ := hcs
    exact ⟨none, [], 0, rfl, ⟨Rd.none_, (fun r hr => by cases hr), (fun r hr => by cases hr), by simp, by simp⟩⟩
  · simp [Value.cells] at hcs
    obtain ⟨rfl, rfl, rfl⟩ := hcs
    simp only [Prod.mk.injEq] at hx
    obtain ⟨rfl, rfl⟩ := hx
    have hw1 : cap * 24 ≤ 140737488351232 := by
      have := hw (((List.range len).length + (List.range (cap - len)).length) * P.bytesOf e) (by simp [DataW.weights, ht])
      simp only [List.length_range, reachBytes, be] at this
      have h2 : len + (cap - len) = cap := by omega
      rw [h2] at this
      omega
    have hC : ∀ r, r < len → C r ≤ 140737488351232 := by
      intro r hr
      obtain ⟨h1, h2, h3, h4, h5, h6, h7⟩ := hcell r (by omega)
      cases hA : A' r with
      | none => rw [h6 hA]; omega
      | some a' =>
        have hmem : Go.Deep.intRow (H := H) .u8 (A' r) (L r) (Z r) ∈ (List.range len).map (fun r => Go.Deep.intRow (H := H) .u8 (A' r) (L r) (Z r)) := List.mem_map.2 ⟨r, List.mem_range.2 hr, rfl⟩
        have h8 : C r ∈ (Go.Deep.intRow (H := H) .u8 (A' r) (L r) (Z r)).weights P e := by
          rw [hA]
          simp only [Go.Deep.intRow, DataW.weights, he, bq, lits, List.length_map, List.length_take, List.length_drop]
          rw [show (min (L r) (Z r).length + ((Z r).length - L r)) * 1 = C r by omega]
          exact List.mem_cons_self
        have h9 := hw (C r) (by
          simp only [DataW.weights, ht]
          exact List.mem_cons_of_mem _ (List.mem_append_left _ (weights_mem_all hmem h8)))
        simp only [reachBytes] at h9
        omega
    refine ⟨some a, (List.range len).map fun r => Row.mk (A' r) (((Z r).take (L r)).map fun n => UInt8.ofNat n.toNat) (C r), cap, by simp, ⟨?_, ?_, ?_, by simpa using hl, hw1⟩⟩
    · intro h0
      have h1 : 0 < len := by simpa using h0
      refine ⟨a, rfl, ?_, fun j u hu => ?_⟩
      · exact World.block_lt_of_cell? W a (by have := (hcell 0 (by omega)).1; simpa [Addr.add] using this)
      · rw [List.map_map, List.getElem?_map] at hu
        obtain ⟨r, hr, rfl⟩ := Option.map_eq_some_iff.1 hu
        have hj : j < len := by have := (List.getElem?_eq_some_iff.1 hr).1; simpa using this
        rw [List.getElem?_range hj] at hr
        injection hr with hr
        subst hr
        obtain ⟨h1, h2, h3, h4, h5, h6, h7⟩ := hcell j (by omega)
        rw [h1]
        simp [Row.val]
        omega
    · intro r hr
      obtain ⟨j, hj, rfl⟩ := List.mem_map.1 hr
      have hj := List.mem_range.1 hj
      obtain ⟨h1, h2, h3, h4, h5, h6, h7⟩ := hcell j (by omega)
      have hCj := hC j hj
      refine ⟨?_, by simp; omega⟩
      rw [← map_u8 _ (fun n hn => h5 n (List.mem_of_mem_take hn))]
      intro h0
      have hL : 0 < L j ∧ 0 < (Z j).length := by simp at h0; omega
      cases hA : A' j with
      | none => have := h6 hA; omega
      | some a' =>
        obtain ⟨_, h8⟩ := h7 a' hA
        refine ⟨a', rfl, World.block_lt_of_cell? W a' (by have := h8 0 (by omega); simpa [Addr.add] using this), fun i u hu => ?_⟩
        rw [List.getElem?_map] at hu
        obtain ⟨n, hn, rfl⟩ := Option.map_eq_some_iff.1 hu
        rw [List.getElem?_take] at hn
        split at hn
        · have hi : i < (Z j).length := (List.getElem?_eq_some_iff.1 hn).1
          rw [h8 i (by omega)]
          simp [List.getD, hn]
        · cases hn
    · intro r hr
      obtain ⟨j, hj, rfl⟩ := List.mem_map.1 hr
      have hj := List.mem_range.1 hj
      obtain ⟨h1, h2, h3, h4, h5, h6, h7⟩ := hcell j (by omega)
      have hCj := hC j hj
      exact ⟨by simp; omega, by simp; omega, hCj⟩
end
end Go.Proofs.YteehkcpokgeipaaGreatDoor
