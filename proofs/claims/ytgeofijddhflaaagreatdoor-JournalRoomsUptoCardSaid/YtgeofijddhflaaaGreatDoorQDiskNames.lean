/- The names of a disk's files, rising (disk.Names). Condition: the disk is a call's own. -/
import Derived.Test.YtgeofijddhflaaaGreatDoorQDiskOp
import Derived.Test.YtgeofijddhflaaaGreatDoorIter
set_option linter.unusedVariables false
namespace Go.Proofs.YtgeofijddhflaaaGreatDoor
open Go.RowKit Go.Maps Go.Sort Go.Shelf Oct
theorem keys_entD (l : List (Nm × Nat)) : strKeys (entD l) = l.map (·.1) := by
 unfold entD strKeys
 simp only [List.map_map]
 rfl
set_option maxHeartbeats 1000000 in
set_option maxRecDepth 100000 in
theorem names_any {w : World} {base g m : Nat} {p : PWD} {room : Int} {es : List (Nm × FE)} (h : DiskAt w base g m p room es) (hl : es.length ≤ 4398046511104) :
  Calls Tryz.prog 47 #[.pointer (some ⟨g, 0, none⟩)] w fun e w' => ∃ v, e = .returned v ∧ Own w' w.heap.size 9 v (es.map fun q => .string (str q.1)) ∧ Below w.heap.size w w' := by
 obtain ⟨⟨c0, c1, c2, c3, c4, c5⟩, f0, f1, f2, f3⟩ := blk6_at h.blk
 have hsz : Maps.size (entD (sec FE.blk es)) = es.length := by rw [entD_size, List.length_map]
 have hcon := Lib.hid (Tryz.slices_Sorted_keys_94_95 m _ (entD (sec FE.blk es)) ptrR w h.map (by rw [hsz]; unfold maxLen; omega) (by rw [hsz]; omega))
 have hri := h.map.rising (string_keyed Tryz.underlying9)
 have HRI := Lib.hid hri
 clear h hsz hri
 refine (callsIn_wide (n := 6)).1 ?_
 have hfK : Fence.wide.fn 95 := trivial
 have hfS : Fence.wide.fn 94 := trivial
 refine callsIn_of_wp Tryz.func47 rfl trivial ?_ rfl
 simp only [Tryz.ntmps47, List.size_toArray, List.length_cons, List.length_nil, Nat.reduceAdd, Nat.reduceSub, Array.replicate_succ, Array.replicate_zero, List.push_toArray, List.append_toArray, List.nil_append, List.cons_append]
 gi_wp2_with (first
  | (gi_at_call 95; refine (Tryz.maps_Keys_95 _ _).mono ?_; rintro e w' ⟨rfl, rfl⟩)
  | (gi_at_call 94; refine hcon.out.mono ?_; rintro e w' ⟨v, ss, rfl, hS, hrow, hnil, hb⟩))
 go_ret
 refine ⟨v, rfl, ?_, ((Below.refl _ w).alloc (Nat.le_refl _) _).trans (hb.mono (by simp))⟩
 rw [keys_entD] at hS
 rw [sorted_names HRI.out hS] at hrow
 have hlen : ss.length = es.length := by rw [hS.length_eq]; simp
 unfold Own
 have e : (es.map fun q => Value.string (str q.1)) = ((sec FE.blk es).map (·.1)).map encStr := by
  simp only [List.map_map]
  rfl
 rw [e, List.length_map, List.length_map, List.length_map, ← hlen]
 exact ownsRow_base_a hrow (by simp)
end Go.Proofs.YtgeofijddhflaaaGreatDoor
