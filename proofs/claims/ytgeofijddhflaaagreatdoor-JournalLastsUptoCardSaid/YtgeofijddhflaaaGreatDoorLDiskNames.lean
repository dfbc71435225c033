/- The names of a disk's files, rising (disk.Names). Condition: the disk is a call's own. -/
import Derived.Test.YtgeofijddhflaaaGreatDoorLDiskApp
import Derived.Test.YtgeofijddhflaaaGreatDoorIter
set_option linter.unusedVariables false
set_option linter.unusedSimpArgs false
set_option maxHeartbeats 8000000
set_option maxRecDepth 100000
namespace Go.Proofs.YtgeofijddhflaaaGreatDoor
open Go.RowKit Go.Maps Go.Sort Go.Shelf Oct
theorem cV5 (l : List (Nm × Nat)) : strKeys (bJ2 l) = l.map (·.1) := by
 unfold bJ2 strKeys;simp only [List.map_map]
 rfl
theorem bL5 {w : World} {base g m : Nat} {p : PWD} {room : Int} {es : List (Nm × FE)} (h : aB0 w base g m p room es) (hl : es.length <= 4398046511104) :
  Calls Tryz.prog 47 #[.pointer (some ⟨g, 0, none⟩)] w fun e w' => ∃ v, e = .returned v ∧ Own w' w.heap.size 9 v (es.map fun q => .string (str q.1)) ∧ Below w.heap.size w w' := by
 obtain ⟨⟨c0, c1, c2, c3, c4, c5⟩, f0, f1, f2, f3⟩ := aL8 h.blk;have b8 : Maps.size (bJ2 (sec FE.blk es)) = es.length := by rw [aU9, lU]
 have a8 := qZ (Tryz.slices_Sorted_keys_94_95 m _ (bJ2 (sec FE.blk es)) cX5 w h.map (by rw [b8]; unfold maxLen; omega) (by rw [b8]; omega));have d8 := h.map.rising (string_keyed Tryz.underlying9);have e9 := qZ d8;clear h b8 d8;refine (callsIn_wide (n := 6)).1 ?_;have f8 : Fence.wide.fn 95 := trivial;have f9 : Fence.wide.fn 94 := trivial;refine callsIn_of_wp Tryz.func47 rfl trivial ?_ rfl;simp only [Tryz.ntmps47, List.size_toArray, mC, List.length_nil, Nat.reduceAdd, Nat.reduceSub, Array.replicate_succ, Array.replicate_zero, List.push_toArray, List.append_toArray, List.nil_append, List.cons_append]
 gi_wp2_with (first
  | (gi_at_call 95; refine (Tryz.maps_Keys_95 _ _).mono ?_; rintro e w' ⟨rfl, rfl⟩)
  | (gi_at_call 94; refine a8.out.mono ?_; rintro e w' ⟨v, ss, rfl, hS, a7, f7, hb⟩))
 go_ret
 refine ⟨v, rfl, ?_, ((lS _ w).alloc (lR _) _).trans (hb.mono (by simp))⟩;rw [cV5] at hS;rw [cA9 e9.out hS] at a7;have a9 : ss.length = es.length := by rw [hS.length_eq]; simp
 unfold Own;have e : (es.map fun q => Value.string (str q.1)) = ((sec FE.blk es).map (·.1)).map encStr := by
  simp only [List.map_map]
  rfl
 rw [e, lU, lU, lU, <- a9];exact ownsRow_base_a a7 (by simp)
end Go.Proofs.YtgeofijddhflaaaGreatDoor
