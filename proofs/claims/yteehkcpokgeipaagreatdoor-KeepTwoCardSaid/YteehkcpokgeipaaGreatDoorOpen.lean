/- Opening the arguments of a row, over any program: strings, slices of bytes, slices of ints, slices of slices of bytes, with the form's own reach. No condition. -/
import Derived.Test.YteehkcpokgeipaaGreatDoorMem
import Derived.ProofKit
import Derived.OpenShut
import Derived.ShutString
import Derived.SizedLaws
import Derived.ChangeOld
import Derived.WalkArith
set_option linter.unusedVariables false
namespace Go.Proofs.YteehkcpokgeipaaGreatDoor
open Go.ChangeShapes Go.WideShapes Go.ChangeAt Go.RowKit Oct
open Go.ChangeMaps (open_string shut_string)

/-- A slice of bytes that came in. -/
structure In8 (w : World) (A : Option Addr) (l : List UInt8) (c : Nat) : Prop where
  rd : Rd w w.heap.size A (cells l)
  le : l.length ≤ c
  cap : c ≤ 140737488351232

/-- A slice of ints that came in. -/
structure InInts (w : World) (A : Option Addr) (z : List Int) (c : Nat) : Prop where
  rd : Rd w w.heap.size A (z.map (Value.int .i64))
  le : z.length ≤ c
  cap : c * 8 ≤ 140737488351232
  wf : ∀ n ∈ z, -9223372036854775808 ≤ n ∧ n ≤ 9223372036854775807

theorem bd_i64 {n : Int} (h : (Lit.int .i64 n).wf = true) : -9223372036854775808 ≤ n ∧ n ≤ 9223372036854775807 := by
  simp [Lit.wf, IntKind.min, IntKind.max, IntKind.signed, IntKind.bits] at h
  omega
theorem bd_u8 {n : Int} (h : (Lit.int .u8 n).wf = true) : 0 ≤ n ∧ n ≤ 255 := by
  simp [Lit.wf, IntKind.min, IntKind.max, IntKind.signed, IntKind.bits] at h
  omega

section
variable {H : Type} {enc : TypeId × Value → H} {P : Program} {W : World} {base : Nat}

theorem open_row {t e : TypeId} {k : IntKind} (ht : P.underlying t = some (.slice e)) (he : P.underlying e = some (.int k)) (hc : P.cellsOf e = 1)
    {v : Value} {d : DataW H} {p : List MemPlace} (hv : Value.okWide P W .any base t v) (h : DataW.Trod enc P W 0 (fun _ => true) true t v d p) (hw : ∀ n ∈ d.weights P t, n ≤ reachBytes) :
    ∃ (A : Option Addr) (z : List Int) (c : Nat), v = .slice A z.length c ∧ Rd W W.heap.size A (z.map (Value.int k)) ∧ z.length ≤ c ∧ c * P.bytesOf e ≤ reachBytes ∧ ∀ n ∈ z, (Lit.int k n).wf = true := by
  obtain ⟨A, len, cap, rfl⟩ := okWide_slice ht hv
  obtain ⟨fuel, hf⟩ := h
  rcases open_ints ht he hc hf with ⟨hcs, hx⟩ | ⟨a, l, c, zs, hcs, _, hl, hm, hz, hx, hcell, hwz⟩
  · simp [Value.cells] at hcs
    obtain ⟨rfl, rfl, rfl⟩ := hcs
    exact ⟨none, [], 0, rfl, Rd.none_, by simp, by simp, by simp⟩
  · simp [Value.cells] at hcs
    obtain ⟨rfl, rfl, rfl⟩ := hcs
    simp only [Prod.mk.injEq] at hx
    obtain ⟨rfl, rfl⟩ := hx
    simp only [if_true] at hz
    have hlen : (zs.take len).length = len := by simp; omega
    refine ⟨some a, zs.take len, cap, by rw [hlen], ?_, by omega, ?_, fun n hn => hwz n (List.mem_of_mem_take hn)⟩
    · intro h0
      have h1 : 0 < zs.length := by
        rw [List.length_map, hlen] at h0
        omega
      refine ⟨a, rfl, ?_, fun j u hu => ?_⟩
      · exact World.block_lt_of_cell? W a (by have := hcell 0 h1; simpa [Addr.add] using this)
      · rw [List.getElem?_map] at hu
        obtain ⟨n, hn, rfl⟩ := Option.map_eq_some_iff.1 hu
        rw [List.getElem?_take] at hn
        split at hn
        · have hj : j < zs.length := (List.getElem?_eq_some_iff.1 hn).1
          rw [hcell j hj]
          simp [List.getD, hn]
        · cases hn
    · have := hw (((lits (H := H) k (zs.take len)).length + (lits (H := H) k (zs.drop len)).length) * P.bytesOf e) (by simp [DataW.weights, ht])
      simp only [lits, List.length_map, List.length_take, List.length_drop] at this
      rw [show min len zs.length + (zs.length - len) = cap by omega] at this
      exact this

/-- A slice of bytes. -/
theorem open_bytes {t e : TypeId} (ht : P.underlying t = some (.slice e)) (he : P.underlying e = some (.int .u8)) (hc : P.cellsOf e = 1) (hby : P.bytesOf e = 1)
    {v : Value} {d : DataW H} {p : List MemPlace} (hv : Value.okWide P W .any base t v) (h : DataW.Trod enc P W 0 (fun _ => true) true t v d p) (hw : ∀ n ∈ d.weights P t, n ≤ reachBytes) :
    ∃ (A : Option Addr) (l : List UInt8) (c : Nat), v = .slice A l.length c ∧ In8 W A l c := by
  obtain ⟨A, z, c, rfl, hr, hl, hcap, hwf⟩ := open_row ht he hc hv h hw
  have hz : z.map (Value.int .u8) = cells (z.map fun n => UInt8.ofNat n.toNat) := by
    simp only [cells, List.map_map]
    refine List.map_congr_left fun n hn => ?_
    have h1 := hwf n hn
    simp [Lit.wf, IntKind.min, IntKind.max, IntKind.signed, IntKind.bits] at h1
    simp
    omega
  refine ⟨A, z.map fun n => UInt8.ofNat n.toNat, c, by rw [List.length_map], ⟨by rw [← hz]; exact hr, by rw [List.length_map]; exact hl, ?_⟩⟩
  rw [hby] at hcap
  simp only [reachBytes] at hcap
  omega

/-- A slice of ints. -/
theorem open_nums {t e : TypeId} (ht : P.underlying t = some (.slice e)) (he : P.underlying e = some (.int .i64)) (hc : P.cellsOf e = 1) (hby : P.bytesOf e = 8)
    {v : Value} {d : DataW H} {p : List MemPlace} (hv : Value.okWide P W .any base t v) (h : DataW.Trod enc P W 0 (fun _ => true) true t v d p) (hw : ∀ n ∈ d.weights P t, n ≤ reachBytes) :
    ∃ (A : Option Addr) (z : List Int) (c : Nat), v = .slice A z.length c ∧ InInts W A z c := by
  obtain ⟨A, z, c, rfl, hr, hl, hcap, hwf⟩ := open_row ht he hc hv h hw
  refine ⟨A, z, c, rfl, ⟨hr, hl, ?_, fun n hn => ?_⟩⟩
  · rw [hby] at hcap
    simp only [reachBytes] at hcap
    omega
  · have h1 := hwf n hn
    simp [Lit.wf, IntKind.min, IntKind.max, IntKind.signed, IntKind.bits] at h1
    omega

/-- A string. -/
theorem open_str {t : TypeId} (ht : P.underlying t = some .string) {v : Value} {d : DataW H} {p : List MemPlace} (hv : Value.okWide P W .any base t v) (h : DataW.Trod enc P W 0 (fun _ => true) true t v d p)
    (hw : ∀ n ∈ d.weights P t, n ≤ reachBytes) : ∃ s : ByteArray, v = .string s ∧ s.size ≤ 140737488351232 := by
  obtain ⟨s, rfl, rfl, rfl, hs⟩ := open_string ht hv h
  refine ⟨s, rfl, ?_⟩
  have := hw s.data.toList.length (by simp [DataW.weights])
  simp only [reachBytes] at this
  simpa using this
end
end Go.Proofs.YteehkcpokgeipaaGreatDoor
