/- Opening the arguments of a row, over any program: strings, slices of bytes, slices of ints, slices of slices of bytes, with the form's own reach. No condition. -/
import Derived.Test.YtgeofijddhflaaaGreatDoorLHeldS
import Derived.ProofKit
import Derived.OpenShut
import Derived.ShutString
set_option linter.unusedVariables false
set_option linter.unusedSimpArgs false
namespace Go.Proofs.YtgeofijddhflaaaGreatDoor
open Go.ChangeShapes Go.WideShapes Go.ChangeAt Go.RowKit Oct
open Go.ChangeMaps (open_string shut_string)
structure In8 (w : World) (A : Option Addr) (l : List UInt8) (c : Nat) : Prop where
 rd : Rd w w.heap.size A (cells l)
 le : l.length <= c
 cap : c <= 140737488351232
structure cH2 (w : World) (A : Option Addr) (z : List Int) (c : Nat) : Prop where
 rd : Rd w w.heap.size A (z.map (Value.int .i64))
 le : z.length <= c
 cap : c * 8 <= 140737488351232
 wf : ∀ n ∈ z, -9223372036854775808 <= n ∧ n <= 9223372036854775807
theorem bd_i64 {n : Int} (h : (Lit.int .i64 n).wf = true) : -9223372036854775808 <= n ∧ n <= 9223372036854775807 := by
 simp [Lit.wf, IntKind.min, IntKind.max, IntKind.signed, IntKind.bits] at h
 omega
section
variable {H : Type} {enc : TypeId × Value -> H} {P : Program} {W : World} {base : Nat}
theorem dD6 {t e : TypeId} {k : IntKind} (ht : P.underlying t = some (.slice e)) (he : P.underlying e = some (.int k)) (hc : P.cellsOf e = 1)
  {v : Value} {d : DataW H} {p : List MemPlace} (hv : Value.okWide P W .any base t v) (h : DataW.Trod enc P W 0 (fun _ => true) true t v d p) (hw : ∀ n ∈ d.weights P t, n <= reachBytes) :
  ∃ (A : Option Addr) (z : List Int) (c : Nat), v = .slice A z.length c ∧ Rd W W.heap.size A (z.map (Value.int k)) ∧ z.length <= c ∧ c * P.bytesOf e <= reachBytes ∧ ∀ n ∈ z, (Lit.int k n).wf = true := by
 obtain ⟨A, len, cap, rfl⟩ := okWide_slice ht hv;obtain ⟨b8, hf⟩ := h;rcases open_ints ht he hc hf with ⟨a8, hx⟩ | ⟨a, l, c, zs, a8, _, hl, hm, hz, hx, a7, d8⟩
 ·simp [Value.cells] at a8
  obtain ⟨rfl, rfl, rfl⟩ := a8;exact ⟨none, [], 0, rfl, Rd.none_, by simp, by simp, by simp⟩
 simp [Value.cells] at a8
 obtain ⟨rfl, rfl, rfl⟩ := a8;simp only [Prod.mk.injEq] at hx;obtain ⟨rfl, rfl⟩ := hx;simp only [if_true] at hz;have a9 : (zs.take len).length = len := by simp; omega
 refine ⟨some a, zs.take len, cap, by rw [a9], ?_, by omega, ?_, fun n hn => d8 n (List.mem_of_mem_take hn)⟩
 ·intro h0
  have h1 : 0 < zs.length := by
   rw [lU, a9] at h0;omega
  refine ⟨a, rfl, ?_, fun j u hu => ?_⟩
  ·exact mI W a (by have := a7 0 h1; simpa [Addr.add] using this)
  rw [List.getElem?_map] at hu;obtain ⟨n, hn, rfl⟩ := Option.map_eq_some_iff.1 hu;rw [List.getElem?_take] at hn;split at hn
  ·have hj : j < zs.length := (List.getElem?_eq_some_iff.1 hn).1
   rw [a7 j hj];simp [List.getD, hn]
  cases hn
 have := hw (((lits (H := H) k (zs.take len)).length + (lits (H := H) k (zs.drop len)).length) * P.bytesOf e) (by simp [DataW.weights, ht]);simp only [lits, lU, lV, lZ] at this;rw [show min len zs.length + (zs.length - len) = cap by omega] at this;exact this
theorem open_nums {t e : TypeId} (ht : P.underlying t = some (.slice e)) (he : P.underlying e = some (.int .i64)) (hc : P.cellsOf e = 1) (a8 : P.bytesOf e = 8)
  {v : Value} {d : DataW H} {p : List MemPlace} (hv : Value.okWide P W .any base t v) (h : DataW.Trod enc P W 0 (fun _ => true) true t v d p) (hw : ∀ n ∈ d.weights P t, n <= reachBytes) :
  ∃ (A : Option Addr) (z : List Int) (c : Nat), v = .slice A z.length c ∧ cH2 W A z c := by
 obtain ⟨A, z, c, rfl, hr, hl, a7, a9⟩ := dD6 ht he hc hv h hw;refine ⟨A, z, c, rfl, ⟨hr, hl, ?_, fun n hn => ?_⟩⟩
 ·rw [a8] at a7
  simp only [reachBytes] at a7;omega
 have h1 := a9 n hn;simp [Lit.wf, IntKind.min, IntKind.max, IntKind.signed, IntKind.bits] at h1
 omega
end
end Go.Proofs.YtgeofijddhflaaaGreatDoor
