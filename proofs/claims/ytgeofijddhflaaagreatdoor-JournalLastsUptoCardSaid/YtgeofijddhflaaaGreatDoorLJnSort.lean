/- slices.SortFunc over a journal's found segments. Condition: the row is a call's own. -/
import Derived.Test.YtgeofijddhflaaaGreatDoorLJnSame
import Derived.Test.YtgeofijddhflaaaGreatDoorLaySort
import Derived.Sort.OwnSortedInts
set_option linter.unusedVariables false
set_option linter.unusedSimpArgs false
set_option maxHeartbeats 8000000
set_option maxRecDepth 100000
namespace Go.Proofs.YtgeofijddhflaaaGreatDoor
open Go.RowKit Go.Lib Go.Sort Go.Shelf Oct
theorem bJ6 (l : List aF7) : flatK bA2 6 l.toArray = (aJ7 l).toArray := by
 apply Array.ext
 ·rw [size_flatK, List.size_toArray, List.size_toArray, aW7]
 intro t h1 h2;rw [size_flatK, List.size_toArray] at h1;have h3 : t / 6 < l.length := by omega
 have h4 : t % 6 < 6 := by omega
 have e1 := get_flatK bA2 6 l.toArray t (by rw [List.size_toArray]; exact h1);rw [getElem!_pos (flatK bA2 6 l.toArray) t (by rw [size_flatK, List.size_toArray]; exact h1)] at e1;rw [e1, getElem!_pos l.toArray (t / 6) (by simpa using h3)];have e2 := bJ5 l h3 h4;have e3 : t / 6 * 6 + t % 6 = t := by omega
 rw [e3] at e2;rw [List.getElem_toArray, List.getElem_toArray];have e4 : t % 6 < (bA2 l[t / 6]).length := by simp [bA2]; omega
 rw [lW (by rw [aW7]; omega), lW e4] at e2;injection e2 with e2
 rw [e2, getElem!_pos (bA2 l[t / 6]) _ e4]
section
variable {w : World} {g n cap base : Nat} {os : Array Obj} {cur : Array Value} {e : TypeId}
theorem bK2 {vs : List Value} (hb : w.heap[g]? = some (.cells cur e (0, 0))) (ht : cur.toList.take vs.length = vs) : Holds (id : Value -> Value) w g 0 vs.toArray := by
 intro j hj;have a7 : j < vs.length := by simpa using hj
 refine ⟨?_, by simp [World.frozen?, hb]⟩;have h1 : (cur.toList.take vs.length)[j]? = vs[j]? := by rw [ht]
 rw [List.getElem?_take_of_lt a7] at h1;simp only [World.cell?, hb, Nat.zero_add];simp only [Option.isSome_none, Bool.false_eq_true, if_false];rw [<- Array.getElem?_toList, h1];simp [a7]
theorem bY2 {fr : Nat × Nat} (d : Array Value) (hb : w.heap[g]? = some (.cells cur e fr)) :
  (grow (putRow (id : Value -> Value) (Sort.ahead w n) g 0 d) os).heap[g]? = some (.cells (putCells (id : Value -> Value) 0 d cur) e fr) := by
 have hg : g < w.heap.size := (Array.getElem?_eq_some_iff.1 hb).1;rw [heap_grow_old _ _ (by simpa using hg)];simp [putRow, mapBlock, Sort.ahead, Array.getElem?_modify, hb, onCells]
theorem bK1 (d : Array Value) : w.grownBy (grow (putRow (id : Value -> Value) (Sort.ahead w n) g 0 d) os) (some g) := by
 refine ⟨rfl, rfl, rfl, by simp, fun k hk hne => ?_⟩;rw [heap_grow_old _ _ (by simpa using hk)];have : g ≠ k := fun e => hne (by rw [e])
 simp [putRow, mapBlock, Sort.ahead, Array.getElem?_modify, this]
theorem bO8 (cur : Array Value) (ts : List Value) (h : ts.length <= cur.size) : (putCells (id : Value -> Value) 0 ts.toArray cur).toList.take ts.length = ts := by
 apply List.ext_getElem?
 intro j;by_cases hj : j < ts.length
 ·rw [List.getElem?_take_of_lt hj, Array.getElem?_toList]
  simp [putCells, hj, show j < cur.size by omega]
 rw [List.getElem?_take_eq_none (by omega), List.getElem?_eq_none (by omega)]
end
theorem cT3 (w : World) : (isAgg 106).run Tryz.prog w = .ok true w := by kernel_rfl
theorem cM2 (w : World) : (Go.sizeOf 106).run Tryz.prog w = .ok 6 w := by kernel_rfl
theorem dB3 (q : aF7) : (bA2 q).length = 6 := rfl
theorem dB4 (q : aF7) : ∀ v ∈ bA2 q, v.oneCell' = true := by
 intro v hv;unfold bA2 aF7.vl aF7.ve at hv;simp only [List.mem_cons, List.not_mem_nil, or_false] at hv;rcases hv with rfl | rfl | rfl | rfl | rfl | rfl <;> rfl
theorem dC2 (x y : aF7) (W : World) : Calls Tryz.prog 101 #[.agg (bA2 x).toArray, .agg (bA2 y).toArray] W fun e w' => e = .returned (.int .i64 (Lib.compareInt x.s.k y.s.k)) ∧ ∃ q os', w' = grow (W.drewN q) os' := by
 have a7 := fun W' => AnyG.cmp_Compare_int Tryz.cmpInt x.s.k y.s.k W'
 change ∀ W', Calls Tryz.prog 102 _ _ _ at a7
 have HC := qZ a7;clear a7;generalize Lib.compareInt x.s.k y.s.k = r at HC ⊢
 obtain ⟨vx, b8⟩ : ∃ v, v = x.vl := ⟨_, rfl⟩
 obtain ⟨ex, a8⟩ : ∃ v, v = x.ve := ⟨_, rfl⟩
 obtain ⟨vy, d8⟩ : ∃ v, v = y.vl := ⟨_, rfl⟩
 obtain ⟨ey, a9⟩ : ∃ v, v = y.ve := ⟨_, rfl⟩
 unfold bA2 aF7.vl aF7.ve;clear b8 a8 d8 a9 vx ex vy ey;go_enter Tryz.func101, Tryz.ntmps101
 go_wp2_with (go_at_call 102; refine (HC.out _).mono ?_; rintro e w' ⟨rfl, rfl⟩)
 go_ret
 exact ⟨rfl, 0, _, by rw [alloc_eq_grow, alloc_eq_grow, grow_grow]; rfl⟩
theorem cJ8 (x y : aF7) : ltOf (fun x y : aF7 => Lib.compareInt x.s.k y.s.k) x y = decide (x.s.k < y.s.k) := by
 unfold ltOf Lib.compareInt;by_cases h1 : x.s.k < y.s.k
 ·simp [h1]
 by_cases h2 : y.s.k < x.s.k <;> simp [h1, h2]
theorem dJ3 : SWO (ltOf fun x y : aF7 => Lib.compareInt x.s.k y.s.k) where
 irrefl x := by rw [cJ8]; simp
 trans x y z h1 h2 := by rw [cJ8] at *; simp at *; omega
 ntrans x y z h1 h2 := by rw [cJ8] at *; simp at *; omega
theorem cV2 {w : World} {base : Nat} {v : Value} {recs : List aF7} (h : w.ownsRow base 106 6 v recs.length (aJ7 recs)) (hl : recs.length <= 1099511627776) :
  Calls Tryz.prog 100 #[v, .func (.func 101) #[] #[]] w fun e w' => e = .returned (.tuple #[]) ∧
   ∃ recs', recs'.Perm recs ∧ (recs'.Pairwise fun x y => x.s.k <= y.s.k) ∧ w'.ownsRow base 106 6 v recs'.length (aJ7 recs') ∧ w.grownBy w' v.ownBlock := by
 have eg : ∀ args w, (callFunc 101 args).run Tryz.prog w = .ok (.enter 101 args) w := enters_of Tryz.func101 (by kernel_rfl) rfl
 have a9 : ∀ p cap, Calls Tryz.prog 100 #[.slice p 0 cap, .func (.func 101) #[] #[]] w fun e w' => e = .returned (.tuple #[]) ∧ w' = w := fun p cap => AnyF.slices_SortFunc_none Tryz.sortFound p cap _ w
 rcases h.2 with ⟨h0, hn⟩ | ⟨g, cap, e9, hv, a8, hg, hn, hm, hs, ht⟩
 ·subst h0
  obtain rfl : recs = [] := mD hn;refine (a9 none 0).mono ?_;rintro e w' ⟨rfl, rfl⟩;exact ⟨rfl, [], List.Perm.refl _, List.Pairwise.nil, h, ⟨rfl, rfl, rfl, lR _, fun _ _ _ => rfl⟩⟩
 subst hv;have f8 := (Array.getElem?_eq_some_iff.1 hg).1;have hK : HoldsK bA2 6 w g 0 recs.toArray := by
  unfold HoldsK;rw [bJ6];refine bK2 hg ?_;rw [aW7];exact ht
 have a7 := AnyQ.slices_SortFunc Tryz.sortFound 6 cT3 cM2 bA2 dB3 dB4 (fun x y : aF7 => Lib.compareInt x.s.k y.s.k) dJ3 101 #[] g 0 cap recs.toArray w eg (fun _ _ _ _ x y => dC2 x y _) hK f8 (by simp; omega);change Calls Tryz.prog 100 _ _ _ at a7;rw [List.size_toArray] at a7;refine a7.mono ?_;rintro e w' ⟨rfl, d', n, os, hp, f9, rfl⟩;have b8 : d'.toList.length = recs.length := by have := hp.1; simpa using this
 have hw : sortWorldK bA2 6 w g 0 n d' os = grow (putRow (id : Value -> Value) (Sort.ahead w n) g 0 (aJ7 d'.toList).toArray) os := by
  unfold sortWorldK putRowK;rw [<- bJ6]
 refine ⟨rfl, d'.toList, ?_, ?_, ?_, ?_⟩
 ·have h3 := hp.2.2
  rw [show recs.length = d'.size by rw [<- b8]; simp] at h3;rw [Array.extract_size] at h3;rw [show d'.size = recs.toArray.size by have := hp.1; simpa using this, Array.extract_size] at h3
  simpa using h3
 ·rw [List.pairwise_iff_getElem]
  intro i j hi hj f7;have h4 := f9 i j (Nat.zero_le _) f7 (by rw [<- b8]; exact hj);rw [cJ8] at h4;rw [getElem!_pos d' j (by simpa using hj), getElem!_pos d' i (by simpa using hi)] at h4;simp only [decide_eq_false_iff_not] at h4;simp only [Array.getElem_toList];omega
 ·rw [hw, b8]
  have d8 : (aJ7 d'.toList).length = recs.length * 6 := by rw [aW7, b8]
  refine ⟨d8, .inr ⟨g, cap, _, rfl, a8, bY2 _ hg, hn, hm, by simp [putCells, hs], ?_⟩⟩;rw [<- d8];exact bO8 e9 _ (by rw [d8, hs]; omega)
 rw [hw];exact bK1 _
end Go.Proofs.YtgeofijddhflaaaGreatDoor
