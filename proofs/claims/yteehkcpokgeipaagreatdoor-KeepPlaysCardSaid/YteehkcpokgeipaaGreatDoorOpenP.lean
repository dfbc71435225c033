/- Opening arguments that are snapshots and pieces. No condition. -/
import Derived.Test.YteehkcpokgeipaaGreatDoorOpen
import Derived.Test.YteehkcpokgeipaaGreatDoorOpenR
import Derived.Lib.SmallJoins
import Derived.Deep.Fields
set_option linter.unusedVariables false
namespace Go.Proofs.YteehkcpokgeipaaGreatDoor
open Go.ChangeShapes Go.WideShapes Go.ChangeAt Go.RowKit Go.Joins Go.Deep Oct
section
variable {H : Type} {enc : TypeId × Value → H} {P : Program} {W : World} {base : Nat}
theorem open_row_cell {t e : TypeId} {k : IntKind} (ht : P.underlying t = some (.slice e)) (he : P.underlying e = some (.int k)) (hc : P.cellsOf e = 1)
  {v : Value} {fuel : Nat} {y : DataW H × List MemPlace} (hf : DataW.trod enc P W 0 (fun _ => true) true fuel t [v] = some y) (hw : ∀ n ∈ y.1.weights P t, n ≤ reachBytes) :
  ∃ (A : Option Addr) (z : List Int) (c : Nat), v = .slice A z.length c ∧ Rd W W.heap.size A (z.map (Value.int k)) ∧ z.length ≤ c ∧ c * P.bytesOf e ≤ reachBytes ∧ ∀ n ∈ z, (Lit.int k n).wf = true := by
 rcases open_ints ht he hc hf with ⟨hcs, hx⟩ | ⟨a, l, c, zs, hcs, _, hl, hm, hz, hx, hcell, hwz⟩
 ·simp at hcs
  subst hcs
  exact ⟨none, [], 0, rfl, Rd.none_, by simp, by simp, by simp⟩
 ·simp at hcs
  subst hcs
  subst hx
  simp only [if_true] at hz
  have hlen : (zs.take l).length = l := by simp; omega
  refine ⟨some a, zs.take l, c, by rw [hlen], ?_, by omega, ?_, fun n hn => hwz n (List.mem_of_mem_take hn)⟩
  ·intro h0
   have h1 : 0 < zs.length := by
    rw [List.length_map, hlen] at h0
    omega
   refine ⟨a, rfl, ?_, fun j u hu => ?_⟩
   ·exact World.block_lt_of_cell? W a (by have := hcell 0 h1; simpa [Addr.add] using this)
   ·rw [List.getElem?_map] at hu
    obtain ⟨n, hn, rfl⟩ := Option.map_eq_some_iff.1 hu
    rw [List.getElem?_take] at hn
    split at hn
    ·have hj : j < zs.length := (List.getElem?_eq_some_iff.1 hn).1
     rw [hcell j hj]
     simp [List.getD, hn]
    ·cases hn
  ·have := hw (((lits (H := H) k (zs.take l)).length + (lits (H := H) k (zs.drop l)).length) * P.bytesOf e) (by simp [DataW.weights, ht])
   simp only [lits, List.length_map, List.length_take, List.length_drop] at this
   rw [show min l zs.length + (zs.length - l) = c by omega] at this
   exact this
theorem bytes_cell {t e : TypeId} (ht : P.underlying t = some (.slice e)) (he : P.underlying e = some (.int .u8)) (hc : P.cellsOf e = 1) (hby : P.bytesOf e = 1)
  {v : Value} {fuel : Nat} {y : DataW H × List MemPlace} (hf : DataW.trod enc P W 0 (fun _ => true) true fuel t [v] = some y) (hw : ∀ n ∈ y.1.weights P t, n ≤ reachBytes) :
  ∃ (A : Option Addr) (l : List UInt8) (c : Nat), v = .slice A l.length c ∧ In8 W A l c := by
 obtain ⟨A, z, c, rfl, hr, hl, hcap, hwf⟩ := open_row_cell ht he hc hf hw
 refine ⟨A, z.map fun n => UInt8.ofNat n.toNat, c, by rw [List.length_map], ⟨by rw [← map_u8 z hwf]; exact hr, by rw [List.length_map]; exact hl, ?_⟩⟩
 rw [hby] at hcap
 simp only [reachBytes] at hcap
 omega
theorem ints_cell {t e : TypeId} (ht : P.underlying t = some (.slice e)) (he : P.underlying e = some (.int .i64)) (hc : P.cellsOf e = 1) (hby : P.bytesOf e = 8)
  {v : Value} {fuel : Nat} {y : DataW H × List MemPlace} (hf : DataW.trod enc P W 0 (fun _ => true) true fuel t [v] = some y) (hw : ∀ n ∈ y.1.weights P t, n ≤ reachBytes) :
  ∃ (A : Option Addr) (z : List Int) (c : Nat), v = .slice A z.length c ∧ InInts W A z c := by
 obtain ⟨A, z, c, rfl, hr, hl, hcap, hwf⟩ := open_row_cell ht he hc hf hw
 refine ⟨A, z, c, rfl, ⟨hr, hl, ?_, fun n hn => bd_i64 (hwf n hn)⟩⟩
 rw [hby] at hcap
 simp only [reachBytes] at hcap
 omega
theorem int_cell {t : TypeId} (ht : P.underlying t = some (.int .i64)) {v : Value} {fuel : Nat} {y : DataW H × List MemPlace} (hf : DataW.trod enc P W 0 (fun _ => true) true fuel t [v] = some y) :
  ∃ a : Int, v = .int .i64 a ∧ -9223372036854775808 ≤ a ∧ a ≤ 9223372036854775807 := by
 obtain ⟨a, h1, _, h2⟩ := DataW.trod_int ht hf
 simp at h1
 exact ⟨a, h1, bd_i64 h2⟩
end
end Go.Proofs.YteehkcpokgeipaaGreatDoor
set_option linter.unusedVariables false
namespace Go.Proofs.YteehkcpokgeipaaGreatDoor
open Go.ChangeShapes Go.WideShapes Go.ChangeAt Go.RowKit Go.Joins Go.Deep Oct
theorem list_of {α : Type} {G : Nat → α → Prop} : ∀ n, (∀ k, k < n → ∃ p, G k p) → ∃ ps : List α, ps.length = n ∧ ∀ k (hk : k < ps.length), G k ps[k]
 | 0, _ => ⟨[], rfl, fun k hk => absurd hk (by simp)⟩
 | n + 1, h => by
  obtain ⟨ps, h1, h2⟩ := list_of n (fun k hk => h k (by omega))
  obtain ⟨p, hp⟩ := h n (by omega)
  refine ⟨ps ++ [p], by simp [h1], fun k hk => ?_⟩
  by_cases hlt : k < ps.length
  ·rw [List.getElem_append_left hlt]; exact h2 k hlt
  ·have : k = n := by simp at hk; omega
   subst this
   rw [List.getElem_append_right (by omega)]
   simpa [h1] using hp
end Go.Proofs.YteehkcpokgeipaaGreatDoor
