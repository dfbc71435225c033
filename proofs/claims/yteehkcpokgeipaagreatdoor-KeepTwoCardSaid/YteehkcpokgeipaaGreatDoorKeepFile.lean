/- keep.file: the pieces of a snapshot's file. Condition: the bytes can be read, at most 1200000 of them. -/
import Derived.Test.YteehkcpokgeipaaGreatDoorKeepFoot
set_option linter.unusedVariables false
namespace Go.Proofs.YteehkcpokgeipaaGreatDoor
open Go.RowKit Go.Shelf Oct
attribute [local go_sem] Oper.semAt_some

/-- The rows of a snapshot's file. -/
def fileL (l : List UInt8) : List (List UInt8) := (chunksL l).map closeS ++ [footS (chunksL l).length l]
theorem own_keepB {w w' : World} {base : Nat} {e : TypeId} {v : Value} {xs : List Value} (hg : Own w base e v xs) (h : ∀ q, v.ownBlock = some q → w'.heap[q]? = w.heap[q]?) : Own w' base e v xs := by
  refine ⟨hg.1, ?_⟩
  rcases hg.2 with h2 | ⟨g, cap, cur, hv, hb2, hg2, r⟩
  · exact .inl h2
  · exact .inr ⟨g, cap, cur, hv, hb2, (h g (by rw [hv]; rfl)).trans hg2, r⟩
theorem GotRows.grown_off {w w' : World} {base : Nat} {v : Value} {xs : List Value} {ls : List (List UInt8)} (h : GotRows w base v xs ls) {row : Option Nat} (hg : w.grownBy w' row) (hr : ∀ r, row = some r → ∃ o : Obj, w.heap[r]? = some o ∧ o.isCells = false) : GotRows w' base v xs ls := by
  refine ⟨own_keepB h.own (fun q hq => ?_), h.len, fun i hi hi' => (h.got i hi hi').kept (fun q hq => ?_) hg.size, h.apart, h.off⟩
  · obtain ⟨cs, hc⟩ := ownsRow_held h.own hq
    exact grownBy_off hg hr hc
  · obtain ⟨cs, hc⟩ := (h.got i hi hi').row.held hq
    exact grownBy_off hg hr hc
theorem GotRows.far {w w' : World} {base g : Nat} {v : Value} {xs : List Value} {ls : List (List UInt8)} (h : GotRows w base v xs ls) (hg : w.grownBy w' (some g)) (hlt : g < base) : GotRows w' base v xs ls := by
  refine ⟨own_keepB h.own (fun q hq => ?_), h.len, fun i hi hi' => (h.got i hi hi').kept (fun q hq => ?_) hg.size, h.apart, h.off⟩
  · have := h.own.lt q hq
    exact hg.block q this.2 (fun e => by injection e with e; omega)
  · have h1 := (h.got i hi hi').row.base q hq
    exact hg.block q ((h.got i hi hi').row.lt q hq) (fun e => by injection e with e; omega)
theorem GotRows.mono {w : World} {base base' : Nat} {v : Value} {xs : List Value} {ls : List (List UInt8)} (h : GotRows w base v xs ls) (hb : base' ≤ base) : GotRows w base' v xs ls :=
  ⟨Own.mono h.own hb, h.len, fun i hi hi' => (h.got i hi hi').mono hb, h.apart, h.off⟩
set_option maxHeartbeats 4000000 in
set_option maxRecDepth 100000 in
theorem file_any (A : Option Addr) (l : List UInt8) (c : Nat) (w : World) (hr : Rd w w.heap.size A (cells l)) (hlc : l.length ≤ c) (hl : l.length ≤ 1100000) :
    Calls Tryz.prog 15 #[.slice A l.length c] w fun e w' => ∃ v xs, e = .returned v ∧ GotRows w' w.heap.size v xs (fileL l) ∧ Below w.heap.size w w' := by
  have HR := Lib.hid hr
  refine (callsIn_wide (n := 9)).1 ?_
  refine callsIn_of_wp_marks Tryz.func15 rfl trivial ?_ rfl
  simp only [Tryz.ntmps15, List.size_toArray, List.length_cons, List.length_nil, Nat.reduceAdd, Nat.reduceSub, Array.replicate_succ, Array.replicate_zero, List.push_toArray, List.append_toArray, List.nil_append, List.cons_append]
  gi_wp2_with fail
  refine ⟨trivial, (callsIn_wide.2 (chunk_any A l.length c _)).mono ?_⟩
  rintro e w2 ⟨rfl, rfl⟩
  gi_wp2_with fail
  have K1 : Blk (((w.alloc (Obj.cells #[Value.slice none 0 0] 54)).alloc (Obj.cells #[Value.slice A l.length c] 27)).alloc (Obj.cells #[Value.int IntKind.i64 400] 3)) (w.heap.size + 1) 27 #[.slice A l.length c] := by
    have h := Blk.new (w.alloc (Obj.cells #[Value.slice none 0 0] 54)) 27 #[.slice A l.length c]
    rw [show (w.alloc (Obj.cells #[Value.slice none 0 0] 54)).heap.size = w.heap.size + 1 by simp] at h
    exact h.alloc _
  have K2 : Blk (((w.alloc (Obj.cells #[Value.slice none 0 0] 54)).alloc (Obj.cells #[Value.slice A l.length c] 27)).alloc (Obj.cells #[Value.int IntKind.i64 400] 3)) (w.heap.size + 1 + 1) 3 #[.int .i64 400] := by
    have h := Blk.new ((w.alloc (Obj.cells #[Value.slice none 0 0] 54)).alloc (Obj.cells #[Value.slice A l.length c] 27)) 3 #[.int .i64 400]
    rw [show ((w.alloc (Obj.cells #[Value.slice none 0 0] 54)).alloc (Obj.cells #[Value.slice A l.length c] 27)).heap.size = w.heap.size + 1 + 1 by simp] at h
    exact h
  have K0 : Boxed (((w.alloc (Obj.cells #[Value.slice none 0 0] 54)).alloc (Obj.cells #[Value.slice A l.length c] 27)).alloc (Obj.cells #[Value.int IntKind.i64 400] 3)) w.heap.size 54 (.slice none 0 0) := ((Boxed.new w 54 (.slice none 0 0)).alloc _).alloc _
  have hbL : Below w.heap.size w (((w.alloc (Obj.cells #[Value.slice none 0 0] 54)).alloc (Obj.cells #[Value.slice A l.length c] 27)).alloc (Obj.cells #[Value.int IntKind.i64 400] 3)) := (((Below.refl _ w).alloc (Nat.le_refl _) _).alloc (by simp) _).alloc (by simp; omega) _
  have HZ : Hid ((((w.alloc (Obj.cells #[Value.slice none 0 0] 54)).alloc (Obj.cells #[Value.slice A l.length c] 27)).alloc (Obj.cells #[Value.int IntKind.i64 400] 3)).heap.size = w.heap.size + 3) := Lib.hid (by simp)
  generalize hWL : ((w.alloc (Obj.cells #[Value.slice none 0 0] 54)).alloc (Obj.cells #[Value.slice A l.length c] 27)).alloc (Obj.cells #[Value.int IntKind.i64 400] 3) = WL at K0 K1 K2 hbL HZ ⊢
  clear hWL
  refine wpIn_rangeFunc_ownG (by rfl) (by omega) (gf := 99) (lb := #[.pointer (some ⟨w.heap.size + 1, 0, none⟩), .pointer (some ⟨w.heap.size + 1 + 1, 0, none⟩)]) rfl trivial (enters_of Tryz.func99 (by kernel_rfl) rfl)
    (chunk_stops (9 - 1) (by omega) (w.heap.size + 1) (w.heap.size + 1 + 1) 3000 A l.length c hlc (by omega) (fun k hk => by omega) _ K1 K2)
    (fun h k => ⟨k.1.trans h.1, k.2.trans h.2⟩) (fun W q o o' hq _ _ _ => ⟨World.putObj_heap_other (by rw [HZ.out] at hq; omega), World.putObj_heap_other (by rw [HZ.out] at hq; omega)⟩) (Below.refl _ _) (fun _ => rfl)
    (fun pre W => (∃ v xs, Boxed W w.heap.size 54 v ∧ GotRows W (w.heap.size + 3) v xs ((ckLs l pre).map closeS)) ∧ Below w.heap.size w W ∧ w.heap.size + 3 ≤ W.heap.size ∧ pre.length = (ckLs l pre).length) (fun _ _ _ => False)
    (fun pre X Y row hs hg hr => by
      obtain ⟨⟨v, xs, hbx, hp⟩, hbe, hsz, hln⟩ := hs
      exact ⟨⟨v, xs, (grownBy_off hg (fun r e => (hr r e).2) hbx).trans hbx, hp.grown_off hg (fun r e => (hr r e).2)⟩, hbe.grown hg hbe.size (fun k e => by have := (hr k e).1; rw [HZ.out] at this; omega), Nat.le_trans hsz hg.size, hln⟩)
    (fun _ _ _ _ _ h _ _ => h) ⟨⟨_, [], K0, GotRows.nil _ _⟩, hbL, by rw [HZ.out]; exact Nat.le_refl _, rfl⟩
    (fun x => { tmps := #[Value.slice A l.length c, undef, Value.slice none 0 0, Value.pointer (some ⟨w.heap.size, 0, none⟩), (Value.slice (cutA A (400 * x.1) (ckEnd l.length x.1)) (ckEnd l.length x.1 - 400 * x.1) (ckEnd l.length x.1 - 400 * x.1)), Value.slice A l.length c, Value.func (Fn.func 99) #[] #[Value.pointer (some ⟨w.heap.size + 1, 0, none⟩), Value.pointer (some ⟨w.heap.size + 1 + 1, 0, none⟩)], (Value.slice (cutA A (400 * x.1) (ckEnd l.length x.1)) (ckEnd l.length x.1 - 400 * x.1) (ckEnd l.length x.1 - 400 * x.1)), undef, undef, undef, undef, undef, undef, undef, undef, undef, undef, undef, undef, undef], defers := [] }) ?assign ?body ?done ?stop
  case stop => intro D c pre W _ _ h; exact h.elim
  case assign =>
    intro q x W K hK
    gi_wp2
    exact hK
  case body =>
    rintro q pre x W ⟨⟨v, xs, hBx, hG⟩, hbe, hsW, hln⟩ hlen
    obtain ⟨Av', cv', rfl, hcv1, hcv2, hcv3⟩ := Own.shape hG.own
    have hrL : Rd W w.heap.size A (cells l) := HR.out.below hbe
    have hck := rd_ck hrL x.2
    have c0 := hBx.cell
    have HG := Lib.hid hG
    have hckl : (ckL l x.1).length ≤ 400 := ckL_le
    have HCK := Lib.hid (show (ckL l x.1).length = ckEnd l.length x.1 - 400 * x.1 from ckL_length)
    obtain ⟨N, hN⟩ : ∃ N, N = ckEnd l.length x.1 - 400 * x.1 := ⟨_, rfl⟩
    obtain ⟨Ac, hAc⟩ : ∃ Ac, Ac = cutA A (400 * x.1) (ckEnd l.length x.1) := ⟨_, rfl⟩
    rw [← hN] at HCK ⊢
    rw [← hAc] at hck ⊢
    have hNl : N ≤ 400 := by rw [← HCK.out]; exact hckl
    have HRC := Lib.hid hck
    clear hG hrL hck hN hAc
    gi_wp2_with fail
    refine wpIn_region_roundT q 6 (by kernel_rfl) (fun _ _ h => h) (by kernel_rfl) (S := fun W' => W'.cell? ⟨w.heap.size, 0, none⟩ = some (.slice Av' xs.length cv') ∧ True ∧ True ∧ True) ⟨c0, trivial, trivial, trivial⟩ (fun hHeld => ?_)
    refine heldT_take 0 (v := ?_) (by simp) (by kernel_rfl) (by kernel_rfl) (by kernel_rfl) (by kernel_rfl) (fun _ _ _ h => h) (Or.inl ⟨by rfl, ?_⟩) hHeld ?_
    case refine_2 => (intro w hSw; (try dsimp only at hSw); (try (obtain ⟨s0, s1, s2, s3⟩ := hSw)); simp only [List.getElem_cons_zero]; go_simp <;> with_reducible rfl)
    simp only [List.getElem_cons_zero, Act.put, List.setIfInBounds_toArray, List.set_cons_zero, List.set_cons_succ]
    refine heldT_take 1 (v := ?_) (by simp) (by kernel_rfl) (by kernel_rfl) (by kernel_rfl) (by kernel_rfl) (fun _ _ _ h => h) (Or.inl ⟨by rfl, ?_⟩) hHeld ?_
    case refine_2 => (intro w hSw; (try dsimp only at hSw); (try (obtain ⟨s0, s1, s2, s3⟩ := hSw)); simp only [List.getElem_cons_zero, List.getElem_cons_succ]; go_simp <;> with_reducible rfl)
    simp only [List.getElem_cons_zero, List.getElem_cons_succ, Act.put, List.setIfInBounds_toArray, List.set_cons_zero, List.set_cons_succ]
    refine heldT_sole 2 (by simp) (by kernel_rfl) (fun K hK => ?_)
    simp only [List.getElem_cons_zero, List.getElem_cons_succ]
    go_simp
    have hbA : Below W.heap.size W (W.alloc (.cells #[.slice Ac N N] 27)).drew := ((Below.refl _ W).alloc (Nat.le_refl _) _).drew
    have hrv : Row.val ⟨Ac, ckL l x.1, N⟩ = .slice Ac N N := by unfold Row.val; rw [HCK.out]
    have hrA : Rd (W.alloc (.cells #[.slice Ac N N] 27)).drew (W.alloc (.cells #[.slice Ac N N] 27)).drew.heap.size (some ⟨W.heap.size, 0, none⟩) ([⟨Ac, ckL l x.1, N⟩].map Row.val) := by
      have h := rd_lit W 27 [.slice Ac N N]
      rw [List.map_cons, List.map_nil, hrv]
      exact (show Rd (W.alloc (.cells [.slice Ac N N].toArray 27)).drew _ _ _ from h).more (by simp)
    have hpA : RRd (W.alloc (.cells #[.slice Ac N N] 27)).drew (W.alloc (.cells #[.slice Ac N N] 27)).drew.heap.size [⟨Ac, ckL l x.1, N⟩] := fun p hp => by
      obtain rfl := List.mem_singleton.1 hp
      exact ⟨((HRC.out.more (by omega : w.heap.size ≤ W.heap.size)).below hbA).more hbA.size, by show (ckL l x.1).length ≤ _; omega⟩
    have HKOA := Lib.hid (show KeepsOthers W (W.alloc (.cells #[.slice Ac N N] 27)).drew from (KeepsOthers.alloc W (.cells #[.slice Ac N N] 27)).trans (KeepsOthers.drew _))
    have hflat : flat [⟨Ac, ckL l x.1, N⟩] = ckL l x.1 := by simp [flat]
    have HCL := Lib.hid (closed_any (some ⟨W.heap.size, 0, none⟩) [⟨Ac, ckL l x.1, N⟩] 1 1 rfl _ hrA hpA (by simp) (by rw [hflat]; omega) (by simp))
    rw [hflat] at HCL
    have c0A := (hbA.cell (p := ⟨w.heap.size, 0, none⟩) (by show w.heap.size < W.heap.size; omega)).trans c0
    have HBA := Lib.hid hbA
    generalize (W.alloc (.cells #[.slice Ac N N] 27)).drew = WA at HKOA HCL c0A HBA ⊢
    clear hrA hpA hflat hbA hrv
    refine hK.out _ _ ⟨c0A, trivial, trivial, trivial⟩ (fun hHeld => ?_)
    clear hK K
    try simp only [Act.put, List.setIfInBounds_toArray, List.set_cons_zero, List.set_cons_succ]
    refine heldT_sole 3 (by simp) (by kernel_rfl) (fun K hK => ?_)
    simp only [List.getElem_cons_zero, List.getElem_cons_succ]
    go_simp
    refine HCL.out.mono ?_
    rintro e W1 ⟨v3, rfl, hg3, hb3⟩
    obtain ⟨A3, c3, rfl, _, _, _⟩ := hg3.shape
    have hsWA := HBA.out.size
    have HX3 := Lib.hid (hg3.mono hsWA)
    have HB3 := Lib.hid (HBA.out.trans (hb3.mono hsWA))
    have HKO3 := Lib.hid (HKOA.out.trans (KeepsOthers.of_grownBy (grown_of_below hb3 none) (fun _ _ h => by cases h)))
    have c03 : W1.cell? ⟨w.heap.size, 0, none⟩ = some (.slice Av' xs.length cv') := (hb3.cell (p := ⟨w.heap.size, 0, none⟩) (by show w.heap.size < WA.heap.size; omega)).trans c0A
    have hs3 := HB3.out.size
    clear hg3 hb3 HCL
    go_wp2_with fail
    refine hK.out _ _ ⟨c03, trivial, trivial, trivial⟩ (fun hHeld => ?_)
    clear hK K
    try simp only [Act.put, List.setIfInBounds_toArray, List.set_cons_zero, List.set_cons_succ]
    refine heldT_sole 4 (by simp) (by kernel_rfl) (fun K hK => ?_)
    simp only [List.getElem_cons_zero, List.getElem_cons_succ]
    go_simp
    have hbB : Below W1.heap.size W1 (W1.alloc (.cells #[.slice A3 (closeS (ckL l x.1)).length c3] 27)) := (Below.refl _ W1).alloc (Nat.le_refl _) _
    have hrB := rd_lit W1 27 [.slice A3 (closeS (ckL l x.1)).length c3]
    have HKO4 := Lib.hid (HKO3.out.trans (KeepsOthers.alloc W1 (.cells #[.slice A3 (closeS (ckL l x.1)).length c3] 27)))
    have c04 := (hbB.cell (p := ⟨w.heap.size, 0, none⟩) (by show w.heap.size < W1.heap.size; omega)).trans c03
    have HX4 := Lib.hid (HX3.out.below hbB (Nat.le_refl _))
    have HB4 := Lib.hid (HB3.out.trans (hbB.mono hs3))
    have hrB' : Rd (W1.alloc (.cells #[.slice A3 (closeS (ckL l x.1)).length c3] 27)) (W1.heap.size + 1) (some ⟨W1.heap.size, 0, none⟩) [.slice A3 (closeS (ckL l x.1)).length c3] := hrB
    have hsB : (W1.alloc (.cells #[.slice A3 (closeS (ckL l x.1)).length c3] 27)).heap.size = W1.heap.size + 1 := by simp
    generalize W1.alloc (.cells #[.slice A3 (closeS (ckL l x.1)).length c3] 27) = WB at hbB HKO4 c04 HX4 HB4 hrB' hsB ⊢
    have HG4 := Lib.hid (HG.out.below HB4.out (Nat.le_refl _))
    clear hbB hrB
    refine hK.out _ _ ⟨c04, trivial, trivial, trivial⟩ (fun hHeld => ?_)
    clear hK K
    try simp only [Act.put, List.setIfInBounds_toArray, List.set_cons_zero, List.set_cons_succ]
    refine heldT_sole 5 (by simp) (by kernel_rfl) (fun K hK => ?_)
    simp only [List.getElem_cons_zero, List.getElem_cons_succ]
    rw [if_pos (by rfl)]
    refine wp_append_any (.tmp 8) (.tmp 12) 54 rfl (w.heap.size + 3) 27 (.slice none 0 0) 24 Tryz.underlying54 info_bytes rfl _ xs rfl HG4.out.own (W1.heap.size + 1) (some ⟨W1.heap.size, 0, none⟩) 1 1 [.slice A3 (closeS (ckL l x.1)).length c3] rfl rfl hrB' (by simp [Value.oneCell']) (by rw [HG.out.len, List.length_map, ← hln]; unfold maxLen; omega) (by rw [HG.out.len, List.length_map, ← hln]; omega) (by omega) ?_
    intro v4 w4 hown4 hg4 hf4
    have HP := Lib.hid (GotRows.push HG.out HB4.out HX4.out (by omega) hown4 hg4 hf4)
    have hb4 : Below (w.heap.size + 3) WB w4 := (Below.refl _ WB).grown hg4 (by omega) (fun k hk => (HG4.out.own.lt k hk).1)
    have HKO5 := Lib.hid (HKO4.out.trans (KeepsOthers.of_grownBy hg4 (fun j o hj ho => by obtain ⟨cs, hc⟩ := ownsRow_held HG4.out.own hj; rw [hc] at ho; cases ho; rfl)))
    obtain ⟨A4, c4, rfl, _, _, _⟩ := Own.shape HP.out.own
    have c05 : w4.cell? ⟨w.heap.size, 0, none⟩ = some (.slice Av' xs.length cv') := (hb4.cell (p := ⟨w.heap.size, 0, none⟩) (by show w.heap.size < w.heap.size + 3; omega)).trans c04
    have HB5 := Lib.hid ((HB4.out.mono (show w.heap.size + 3 ≤ W.heap.size from hsW)).trans hb4)
    have hBx4 : Boxed w4 w.heap.size 54 (.slice Av' xs.length cv') := (HB5.out.block _ (by omega)).trans hBx
    have f0 := hBx4.frozen
    clear hown4 hg4 hf4 hb4 hrB'
    refine hK.out _ _ ⟨c05, trivial, trivial, trivial⟩ (fun hHeld => ?_)
    clear hK K
    try simp only [Act.put, List.setIfInBounds_toArray, List.set_cons_zero, List.set_cons_succ]
    refine heldT_last (t := 6) (by simp) (by kernel_rfl) (by kernel_rfl) (fun K hK => ?_)
    simp only [List.getElem_cons_zero, List.getElem_cons_succ]
    go_simp
    refine hK.out _ _ ?_
    have hP5 := HP.out
    rw [List.length_append, List.length_singleton] at hP5
    have hBx5 : Boxed (w4.setCell ⟨w.heap.size, 0, none⟩ (.slice A4 (xs.length + 1) c4)) w.heap.size 54 (.slice A4 (xs.length + 1) c4) := hBx4.set _
    have hLs : (ckLs l (pre ++ [x])).map closeS = (ckLs l pre).map closeS ++ [closeS (ckL l x.1)] := by simp [ckLs]
    refine ⟨(HKO5.out.trans (KeepsOthers.setCell _ _ _)).from _, ⟨?_, ?_⟩, ⟨_, xs ++ [.slice A3 (closeS (ckL l x.1)).length c3], hBx5, ?_⟩, ?_, ?_, ?_⟩
    · exact (Below.heap_setCell _ _ _ _ (by show w.heap.size + 1 ≠ w.heap.size; omega)).trans (HB5.out.block _ (by omega))
    · exact (Below.heap_setCell _ _ _ _ (by show w.heap.size + 1 + 1 ≠ w.heap.size; omega)).trans (HB5.out.block _ (by omega))
    · rw [hLs]
      exact hP5.far (grown_setCell w4 w.heap.size 0 _) (by show w.heap.size < w.heap.size + 3; omega)
    · exact (hbe.trans (HB5.out.mono (by omega))).setCell (p := ⟨w.heap.size, 0, none⟩) (Nat.le_refl _) _
    · have := HB5.out.size
      simp
      omega
    · simp [ckLs]
  case done =>
    rintro D ys W hD hall ⟨⟨v, xs, hBx, hG⟩, hbe, hsW, hln⟩ hDef
    obtain ⟨Av', cv', rfl, hcv1, hcv2, hcv3⟩ := Own.shape hG.own
    rw [ckLs_all hall] at hG
    have HG := Lib.hid hG
    have HD := Lib.hid hDef
    have hl3 : xs.length ≤ 3000 := by rw [hG.len, List.length_map, chunksL_length]; omega
    have c0 := hBx.cell
    rw [HZ.out] at hD
    have hDl : D < W.heap.size := (Array.getElem?_eq_some_iff.1 hDef).1
    have HFT := Lib.hid (foot_any xs.length (by omega) A l c W.drew ((HR.out.below hbe).more hbe.size) (by omega))
    have HBE := Lib.hid hbe
    clear hG hDef hcv3
    gi_wp2_with fail
    refine wpIn_wide.2 ?_
    refine wp_region_noPanic ?_
    refine wp_region_held_drew (S := fun W' => W'.cell? ⟨w.heap.size, 0, none⟩ = some (.slice Av' xs.length cv') ∧ True ∧ True ∧ True) (by kernel_rfl) ⟨c0, trivial, trivial, trivial⟩ (fun hHeld => ?_)
    refine held_take 0 (v := ?_) (by simp) (by kernel_rfl) (by kernel_rfl) (by kernel_rfl) (fun _ _ _ h => h) (Or.inl ⟨by rfl, ?_⟩) hHeld ?_
    case refine_2 => (intro w hSw; (try dsimp only at hSw); (try (obtain ⟨s0, s1, s2, s3⟩ := hSw)); simp only [List.getElem_cons_zero]; go_simp <;> with_reducible rfl)
    simp only [List.getElem_cons_zero, Act.put, List.setIfInBounds_toArray, List.set_cons_zero, List.set_cons_succ]
    refine held_take 1 (v := ?_) (by simp) (by kernel_rfl) (by kernel_rfl) (by kernel_rfl) (fun _ _ _ h => h) (Or.inl ⟨by rfl, ?_⟩) hHeld ?_
    case refine_2 => (intro w hSw; (try dsimp only at hSw); (try (obtain ⟨s0, s1, s2, s3⟩ := hSw)); simp only [List.getElem_cons_zero, List.getElem_cons_succ]; go_simp <;> with_reducible rfl)
    simp only [List.getElem_cons_zero, List.getElem_cons_succ, Act.put, List.setIfInBounds_toArray, List.set_cons_zero, List.set_cons_succ]
    refine held_take 2 (v := ?_) (by simp) (by kernel_rfl) (by kernel_rfl) (by kernel_rfl) (fun _ _ _ h => h) (Or.inl ⟨by rfl, ?_⟩) hHeld ?_
    case refine_2 => (intro w hSw; (try dsimp only at hSw); (try (obtain ⟨s0, s1, s2, s3⟩ := hSw)); simp only [List.getElem_cons_zero, List.getElem_cons_succ]; go_simp <;> with_reducible rfl)
    simp only [List.getElem_cons_zero, List.getElem_cons_succ, Act.put, List.setIfInBounds_toArray, List.set_cons_zero, List.set_cons_succ]
    refine held_take 3 (v := ?_) (by simp) (by kernel_rfl) (by kernel_rfl) (by kernel_rfl) (fun _ _ _ h => h) (Or.inl ⟨by rfl, ?_⟩) hHeld ?_
    case refine_2 => (intro w hSw; (try dsimp only at hSw); (try (obtain ⟨s0, s1, s2, s3⟩ := hSw)); simp only [List.getElem_cons_zero, List.getElem_cons_succ]; go_simp <;> with_reducible rfl)
    simp only [List.getElem_cons_zero, List.getElem_cons_succ, Act.put, List.setIfInBounds_toArray, List.set_cons_zero, List.set_cons_succ]
    refine held_sole 4 (by simp) (by kernel_rfl) (fun K hK => ?_)
    simp only [List.getElem_cons_zero, List.getElem_cons_succ]
    go_simp
    refine HFT.out.mono ?_
    rintro e W1 ⟨v3, rfl, hg3, hb3⟩
    change Got W1 W.heap.size _ _ at hg3
    change Below W.heap.size W.drew W1 at hb3
    obtain ⟨A3, c3, rfl, _, _, _⟩ := hg3.shape
    have hb3' : Below W.heap.size W W1 := ((Below.refl _ W).drew).trans hb3
    have hX3 := Lib.hid hg3
    have hs3 := hb3'.size
    have c03 : W1.cell? ⟨w.heap.size, 0, none⟩ = some (.slice Av' xs.length cv') := (hb3'.cell (p := ⟨w.heap.size, 0, none⟩) (by show w.heap.size < W.heap.size; omega)).trans c0
    have HD1 := Lib.hid (show W1.heap[D]? = some (.deferred (some [])) from (hb3'.block _ hDl).trans HD.out)
    have HB3 := Lib.hid hb3'
    clear hb3 hb3' hg3
    refine hK.out _ _ ⟨c03, trivial, trivial, trivial⟩ (fun hHeld => ?_)
    clear hK K
    try simp only [Act.put, List.setIfInBounds_toArray, List.set_cons_zero, List.set_cons_succ]
    refine held_sole 5 (by simp) (by kernel_rfl) (fun K hK => ?_)
    simp only [List.getElem_cons_zero, List.getElem_cons_succ]
    go_simp
    have hbB : Below W1.heap.size W1 (W1.alloc (.cells #[.slice A3 (footS xs.length l).length c3] 27)) := (Below.refl _ W1).alloc (Nat.le_refl _) _
    have hrB := rd_lit W1 27 [.slice A3 (footS xs.length l).length c3]
    have c04 := (hbB.cell (p := ⟨w.heap.size, 0, none⟩) (by show w.heap.size < W1.heap.size; omega)).trans c03
    have hX4 := Lib.hid (hX3.out.below hbB (Nat.le_refl _))
    have HD2 := Lib.hid (show (W1.alloc (.cells #[.slice A3 (footS xs.length l).length c3] 27)).heap[D]? = some (.deferred (some [])) from (hbB.block _ (by omega)).trans HD1.out)
    have HB4 := Lib.hid (HB3.out.trans (hbB.mono hs3))
    have hrB' : Rd (W1.alloc (.cells #[.slice A3 (footS xs.length l).length c3] 27)) (W1.heap.size + 1) (some ⟨W1.heap.size, 0, none⟩) [.slice A3 (footS xs.length l).length c3] := hrB
    have hsB : (W1.alloc (.cells #[.slice A3 (footS xs.length l).length c3] 27)).heap.size = W1.heap.size + 1 := by simp
    generalize W1.alloc (.cells #[.slice A3 (footS xs.length l).length c3] 27) = WB at hbB c04 hX4 HD2 HB4 hrB' hsB ⊢
    have HG4 := Lib.hid (HG.out.below HB4.out (by omega))
    clear hbB hrB
    refine hK.out _ _ ⟨c04, trivial, trivial, trivial⟩ (fun hHeld => ?_)
    clear hK K
    try simp only [Act.put, List.setIfInBounds_toArray, List.set_cons_zero, List.set_cons_succ]
    refine held_sole 6 (by simp) (by kernel_rfl) (fun K hK => ?_)
    simp only [List.getElem_cons_zero, List.getElem_cons_succ]
    rw [if_pos (by rfl)]
    refine wp_append_any (.tmp 14) (.tmp 19) 54 rfl (w.heap.size + 3) 27 (.slice none 0 0) 24 Tryz.underlying54 info_bytes rfl _ xs rfl HG4.out.own (W1.heap.size + 1) (some ⟨W1.heap.size, 0, none⟩) 1 1 [.slice A3 (footS xs.length l).length c3] rfl rfl hrB' (by simp [Value.oneCell']) (by unfold maxLen; omega) (by omega) (by omega) ?_
    intro v4 w4 hown4 hg4 hf4
    have HP := Lib.hid (GotRows.push HG.out HB4.out hX4.out (by omega) hown4 hg4 hf4)
    have hb4 : Below (w.heap.size + 3) WB w4 := (Below.refl _ WB).grown hg4 (by omega) (fun k hk => (HG4.out.own.lt k hk).1)
    have HD3 := Lib.hid (show w4.heap[D]? = some (.deferred (some [])) from (hg4.block D (Array.getElem?_eq_some_iff.1 HD2.out).1 (fun e => by obtain ⟨cs, hc⟩ := ownsRow_held HG4.out.own (show (Value.slice Av' xs.length cv').ownBlock = some D from e.symm); rw [HD2.out] at hc; cases hc)).trans HD2.out)
    obtain ⟨A4, c4, rfl, _, _, _⟩ := Own.shape HP.out.own
    have c05 : w4.cell? ⟨w.heap.size, 0, none⟩ = some (.slice Av' xs.length cv') := (hb4.cell (p := ⟨w.heap.size, 0, none⟩) (by show w.heap.size < w.heap.size + 3; omega)).trans c04
    have HB5 := Lib.hid ((HB4.out.mono (show w.heap.size + 3 ≤ W.heap.size from hsW)).trans hb4)
    clear hown4 hg4 hf4 hb4 hrB'
    refine hK.out _ _ ⟨c05, trivial, trivial, trivial⟩ (fun hHeld => ?_)
    clear hK K
    try simp only [Act.put, List.setIfInBounds_toArray, List.set_cons_zero, List.set_cons_succ]
    refine held_take 7 (v := ?_) (by simp) (by kernel_rfl) (by kernel_rfl) (by kernel_rfl) (fun _ _ _ h => h) (Or.inl ⟨by rfl, ?_⟩) hHeld ?_
    case refine_2 => (intro w hSw; (try dsimp only at hSw); (try (obtain ⟨s0, s1, s2, s3⟩ := hSw)); simp only [List.getElem_cons_zero, List.getElem_cons_succ]; go_simp <;> with_reducible rfl)
    simp only [List.getElem_cons_zero, List.getElem_cons_succ, Act.put, List.setIfInBounds_toArray, List.set_cons_zero, List.set_cons_succ]
    refine wpAnyH_done (by kernel_rfl) ?_ _
    have hP5 := HP.out
    have hBE5 := Lib.hid (HBE.out.trans (HB5.out.mono (by omega)))
    have hs4 : w.heap.size ≤ w4.heap.size := hBE5.out.size
    have hHL := hln
    clear c0 c03 c04 c05 hHeld
    refine NoPanic.normal ?_
    gi_wp2_with fail
    have hxl : xs.length = (chunksL l).length := by rw [HG.out.len, List.length_map]
    have hP6 := (hP5.grown_off (grownBy_putObj' w4 D (.deferred none)) (fun r e => by cases e; exact ⟨_, HD3.out, rfl⟩)).mono (show w.heap.size ≤ w.heap.size + 3 by omega)
    have hbF := hBE5.out.trans (belowK_b (w := w) (Nat.le_refl _) w4 D _ (.deferred none) (by omega) HD3.out rfl rfl)
    refine ⟨by simp, .inl ⟨_, _, rfl, run_takeDeferred HD3.out, ?_⟩⟩
    rw [List.length_append, List.length_singleton] at hP6
    refine ⟨_, results_tmp rfl _ _ _, _, xs ++ [.slice A3 (footS xs.length l).length c3], rfl, ?_, hbF⟩
    unfold fileL
    rw [← hxl]
    exact hP6
end Go.Proofs.YteehkcpokgeipaaGreatDoor
