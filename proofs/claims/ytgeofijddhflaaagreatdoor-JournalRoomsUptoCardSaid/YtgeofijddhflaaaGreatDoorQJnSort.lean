/- slices.SortFunc over a journal's found segments. Condition: the row is a call's own. -/
import Derived.Test.YtgeofijddhflaaaGreatDoorQJnMay
import Derived.Test.YtgeofijddhflaaaGreatDoorLaySort
import Derived.Sort.OwnSortedInts
set_option linter.unusedVariables false
set_option linter.unusedSimpArgs false
namespace Go.Proofs.YtgeofijddhflaaaGreatDoor
open Go.RowKit Go.Lib Go.Sort Go.Shelf Oct
theorem flatK_cells (l : List FndR) : flatK fOne 6 l.toArray = (fCells l).toArray := by
 apply Array.ext
 ·rw [size_flatK, List.size_toArray, List.size_toArray, fCells_len]
 ·intro t h1 h2
  rw [size_flatK, List.size_toArray] at h1
  have h3 : t / 6 < l.length := by omega
  have h4 : t % 6 < 6 := by omega
  have e1 := get_flatK fOne 6 l.toArray t (by rw [List.size_toArray]; exact h1)
  rw [getElem!_pos (flatK fOne 6 l.toArray) t (by rw [size_flatK, List.size_toArray]; exact h1)] at e1
  rw [e1, getElem!_pos l.toArray (t / 6) (by simpa using h3)]
  have e2 := fCells_at l h3 h4
  have e3 : t / 6 * 6 + t % 6 = t := by omega
  rw [e3] at e2
  rw [List.getElem_toArray, List.getElem_toArray]
  have e4 : t % 6 < (fOne l[t / 6]).length := by simp [fOne]; omega
  rw [List.getElem?_eq_getElem (by rw [fCells_len]; omega), List.getElem?_eq_getElem e4] at e2
  injection e2 with e2
  rw [e2, getElem!_pos (fOne l[t / 6]) _ e4]
section
variable {w : World} {g n cap base : Nat} {os : Array Obj} {cur : Array Value} {e : TypeId}
theorem holds_of_blockV {vs : List Value} (hb : w.heap[g]? = some (.cells cur e (0, 0))) (ht : cur.toList.take vs.length = vs) : Holds (id : Value → Value) w g 0 vs.toArray := by
 intro j hj
 have hj' : j < vs.length := by simpa using hj
 refine ⟨?_, by simp [World.frozen?, hb]⟩
 have h1 : (cur.toList.take vs.length)[j]? = vs[j]? := by rw [ht]
 rw [List.getElem?_take_of_lt hj'] at h1
 simp only [World.cell?, hb, Nat.zero_add]
 simp only [Option.isSome_none, Bool.false_eq_true, if_false]
 rw [← Array.getElem?_toList, h1]
 simp [hj']
theorem heap_sortedV {fr : Nat × Nat} (d : Array Value) (hb : w.heap[g]? = some (.cells cur e fr)) :
  (grow (putRow (id : Value → Value) (Sort.ahead w n) g 0 d) os).heap[g]? = some (.cells (putCells (id : Value → Value) 0 d cur) e fr) := by
 have hg : g < w.heap.size := (Array.getElem?_eq_some_iff.1 hb).1
 rw [heap_grow_old _ _ (by simpa using hg)]
 simp [putRow, mapBlock, Sort.ahead, Array.getElem?_modify, hb, onCells]
theorem grownBy_sortedV (d : Array Value) : w.grownBy (grow (putRow (id : Value → Value) (Sort.ahead w n) g 0 d) os) (some g) := by
 refine ⟨rfl, rfl, rfl, by simp, fun k hk hne => ?_⟩
 rw [heap_grow_old _ _ (by simpa using hk)]
 have : g ≠ k := fun e => hne (by rw [e])
 simp [putRow, mapBlock, Sort.ahead, Array.getElem?_modify, this]
theorem take_putCellsV (cur : Array Value) (ts : List Value) (h : ts.length ≤ cur.size) : (putCells (id : Value → Value) 0 ts.toArray cur).toList.take ts.length = ts := by
 apply List.ext_getElem?
 intro j
 by_cases hj : j < ts.length
 ·rw [List.getElem?_take_of_lt hj, Array.getElem?_toList]
  simp [putCells, hj, show j < cur.size by omega]
 ·rw [List.getElem?_take_eq_none (by omega), List.getElem?_eq_none (by omega)]
end
theorem found_agg (w : World) : (isAgg 106).run Tryz.prog w = .ok true w := by kernel_rfl
theorem found_size (w : World) : (Go.sizeOf 106).run Tryz.prog w = .ok 6 w := by kernel_rfl
theorem fOne_len (q : FndR) : (fOne q).length = 6 := rfl
theorem fOne_one (q : FndR) : ∀ v ∈ fOne q, v.oneCell' = true := by
 intro v hv
 unfold fOne FndR.vl FndR.ve at hv
 simp only [List.mem_cons, List.not_mem_nil, or_false] at hv
 rcases hv with rfl | rfl | rfl | rfl | rfl | rfl <;> rfl
set_option maxHeartbeats 1000000 in
theorem jcmp_any (x y : FndR) (W : World) : Calls Tryz.prog 101 #[.agg (fOne x).toArray, .agg (fOne y).toArray] W fun e w' => e = .returned (.int .i64 (Lib.compareInt x.s.k y.s.k)) ∧ ∃ q os', w' = grow (W.drewN q) os' := by
 have hcon := fun W' => AnyG.cmp_Compare_int Tryz.cmpInt x.s.k y.s.k W'
 change ∀ W', Calls Tryz.prog 102 _ _ _ at hcon
 have HC := Lib.hid hcon
 clear hcon
 generalize Lib.compareInt x.s.k y.s.k = r at HC ⊢
 obtain ⟨vx, hvx⟩ : ∃ v, v = x.vl := ⟨_, rfl⟩
 obtain ⟨ex, hex⟩ : ∃ v, v = x.ve := ⟨_, rfl⟩
 obtain ⟨vy, hvy⟩ : ∃ v, v = y.vl := ⟨_, rfl⟩
 obtain ⟨ey, hey⟩ : ∃ v, v = y.ve := ⟨_, rfl⟩
 unfold fOne FndR.vl FndR.ve
 clear hvx hex hvy hey vx ex vy ey
 go_enter Tryz.func101, Tryz.ntmps101
 go_wp2_with (go_at_call 102; refine (HC.out _).mono ?_; rintro e w' ⟨rfl, rfl⟩)
 go_ret
 exact ⟨rfl, 0, _, by rw [alloc_eq_grow, alloc_eq_grow, grow_grow]; rfl⟩
theorem jlt_eq (x y : FndR) : ltOf (fun x y : FndR => Lib.compareInt x.s.k y.s.k) x y = decide (x.s.k < y.s.k) := by
 unfold ltOf Lib.compareInt
 by_cases h1 : x.s.k < y.s.k
 ·simp [h1]
 ·by_cases h2 : y.s.k < x.s.k <;> simp [h1, h2]
theorem jlt_swo : SWO (ltOf fun x y : FndR => Lib.compareInt x.s.k y.s.k) where
 irrefl x := by rw [jlt_eq]; simp
 trans x y z h1 h2 := by rw [jlt_eq] at *; simp at *; omega
 ntrans x y z h1 h2 := by rw [jlt_eq] at *; simp at *; omega
set_option maxHeartbeats 1000000 in
theorem jsort_any {w : World} {base : Nat} {v : Value} {recs : List FndR} (h : w.ownsRow base 106 6 v recs.length (fCells recs)) (hl : recs.length ≤ 1099511627776) :
  Calls Tryz.prog 100 #[v, .func (.func 101) #[] #[]] w fun e w' => e = .returned (.tuple #[]) ∧
   ∃ recs', recs'.Perm recs ∧ (recs'.Pairwise fun x y => x.s.k ≤ y.s.k) ∧ w'.ownsRow base 106 6 v recs'.length (fCells recs') ∧ w.grownBy w' v.ownBlock := by
 have eg : ∀ args w, (callFunc 101 args).run Tryz.prog w = .ok (.enter 101 args) w := enters_of Tryz.func101 (by kernel_rfl) rfl
 have hnone : ∀ p cap, Calls Tryz.prog 100 #[.slice p 0 cap, .func (.func 101) #[] #[]] w fun e w' => e = .returned (.tuple #[]) ∧ w' = w := fun p cap => AnyF.slices_SortFunc_none Tryz.sortFound p cap _ w
 rcases h.2 with ⟨h0, hn⟩ | ⟨g, cap, cur, hv, hbase, hg, hn, hm, hs, ht⟩
 ·subst h0
  obtain rfl : recs = [] := List.eq_nil_of_length_eq_zero hn
  refine (hnone none 0).mono ?_
  rintro e w' ⟨rfl, rfl⟩
  exact ⟨rfl, [], List.Perm.refl _, List.Pairwise.nil, h, ⟨rfl, rfl, rfl, Nat.le_refl _, fun _ _ _ => rfl⟩⟩
 ·subst hv
  have hlt := (Array.getElem?_eq_some_iff.1 hg).1
  have hK : HoldsK fOne 6 w g 0 recs.toArray := by
   unfold HoldsK
   rw [flatK_cells]
   refine holds_of_blockV hg ?_
   rw [fCells_len]
   exact ht
  have hcon := AnyQ.slices_SortFunc Tryz.sortFound 6 found_agg found_size fOne fOne_len fOne_one (fun x y : FndR => Lib.compareInt x.s.k y.s.k) jlt_swo 101 #[] g 0 cap recs.toArray w eg (fun _ _ _ _ x y => jcmp_any x y _) hK hlt (by simp; omega)
  change Calls Tryz.prog 100 _ _ _ at hcon
  rw [List.size_toArray] at hcon
  refine hcon.mono ?_
  rintro e w' ⟨rfl, d', n, os, hp, hsd, rfl⟩
  have hsz : d'.toList.length = recs.length := by have := hp.1; simpa using this
  have hw : sortWorldK fOne 6 w g 0 n d' os = grow (putRow (id : Value → Value) (Sort.ahead w n) g 0 (fCells d'.toList).toArray) os := by
   unfold sortWorldK putRowK
   rw [← flatK_cells]
  refine ⟨rfl, d'.toList, ?_, ?_, ?_, ?_⟩
  ·have h3 := hp.2.2
   rw [show recs.length = d'.size by rw [← hsz]; simp] at h3
   rw [Array.extract_size] at h3
   rw [show d'.size = recs.toArray.size by have := hp.1; simpa using this, Array.extract_size] at h3
   simpa using h3
  ·rw [List.pairwise_iff_getElem]
   intro i j hi hj hij
   have h4 := hsd i j (Nat.zero_le _) hij (by rw [← hsz]; exact hj)
   rw [jlt_eq] at h4
   rw [getElem!_pos d' j (by simpa using hj), getElem!_pos d' i (by simpa using hi)] at h4
   simp only [decide_eq_false_iff_not] at h4
   simp only [Array.getElem_toList]
   omega
  ·rw [hw, hsz]
   have hcl : (fCells d'.toList).length = recs.length * 6 := by rw [fCells_len, hsz]
   refine ⟨hcl, .inr ⟨g, cap, _, rfl, hbase, heap_sortedV _ hg, hn, hm, by simp [putCells, hs], ?_⟩⟩
   rw [← hcl]
   exact take_putCellsV cur _ (by rw [hcl, hs]; omega)
  ·rw [hw]
   exact grownBy_sortedV _
end Go.Proofs.YtgeofijddhflaaaGreatDoor
