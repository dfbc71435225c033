/- The reference's pieces; pieces that can be read. Condition: as keep.Bytes. -/
import Derived.Test.YteehkcpokgeipaaGreatDoorKeepBwd
import Derived.Lib.SlBytesConst
import Derived.BigQuiet
set_option linter.unusedVariables false
namespace Go.Proofs.YteehkcpokgeipaaGreatDoor
open Go.RowKit Go.Shelf Oct
attribute [local go_sem] Oper.semAt_some
theorem blk_add {w : World} {g : Nat} {t : TypeId} {cs : List Value} (h : Blk w g t cs.toArray) (j : Nat) (u : Value) (hj : cs[j]? = some u) : w.cell? ((⟨g, 0, none⟩ : Addr).add j) = some u := by
 have hadd : (⟨g, 0, none⟩ : Addr).add j = ⟨g, j, none⟩ := by unfold Addr.add; split <;> simp_all
 rw [hadd, h.cell]
 simpa using hj
theorem _root_.Go.Boxed.other' {W : World} {B : Nat} {t : TypeId} {v : Value} (h : Boxed W B t v) {p : Addr} (hne : B ≠ p.block) (u : Value) : Boxed (W.setCell p u) B t v := (Below.heap_setCell W p u B hne).trans h
theorem snapAt_lt {w : World} {g : Nat} {i t : Int} {x y : Value} (h : SnapAt w g i t x y) : g + 1 ≤ w.heap.size := World.block_lt_of_cell? w ⟨g, 0, none⟩ h.1
theorem snapS_le {i t : Int} {z : List Int} {l : List UInt8} (hm : mayB i t z l = true) (hz : ∀ n ∈ z, -9223372036854775808 ≤ n ∧ n ≤ 9223372036854775807) : (snapS i t z l).length ≤ 1052000 := by
 have h1 := may_len hm
 have h2 := enc_len (fold1 i) (by have := fold1_lt i (by omega); omega)
 have h3 := enc_len (fold1 t) (by have := fold1_lt t (by omega); omega)
 have h4 := encZ_len z hz h1.1
 unfold snapS
 rw [if_pos hm]
 unfold snapW
 simp only [List.length_append]
 omega
set_option maxHeartbeats 4000000 in
set_option maxRecDepth 100000 in
theorem pieces_ok (i t : Int) (Av Ad : Option Addr) (z : List Int) (l : List UInt8) (nv cv nd cd : Nat) (hv : nv = z.length) (hd : nd = l.length) (w : World) (hr : Rd w w.heap.size Av (z.map (Value.int .i64))) (hr2 : Rd w w.heap.size Ad (cells l))
  (hz : ∀ n ∈ z, -9223372036854775808 ≤ n ∧ n ≤ 9223372036854775807) (hl : z.length ≤ 140737488351232) (hl2 : l.length ≤ 4611686018427387904) (hm : mayB i t z l = true) :
  Calls Tryz.prog 13 #[snapV i t Av nv cv Ad nd cd] w fun e w' => ∃ v xs, e = .returned (.tuple #[v, .int .i64 0]) ∧ GotPcs w' w.heap.size v i t xs.length xs (chunksL (snapS i t z l)) ∧ Below w.heap.size w w' := by
 subst hv; subst hd
 have hE : snapE i t z l = 0 := if_pos hm
 have hby := bytes_any i t Av Ad z l _ cv _ cd rfl rfl
 rw [hE] at hby
 unfold snapV at hby ⊢
 have hS0 := Lib.hid (snapAt_new w i t (.slice Av z.length cv) (.slice Ad l.length cd))
 have hb0 := Lib.hid ((Below.refl w.heap.size w).alloc (Nat.le_refl _) (Obj.cells #[.int .i64 i, .int .i64 t, .slice Av z.length cv, .slice Ad l.length cd] 29))
 have hby := Lib.hid (hby (w.alloc (Obj.cells #[.int .i64 i, .int .i64 t, .slice Av z.length cv, .slice Ad l.length cd] 29)) ((hr.below hb0.out).more hb0.out.size) ((hr2.below hb0.out).more hb0.out.size) hz hl hl2)
 refine (callsIn_wide (n := 9)).1 ?_
 refine callsIn_of_wp_marks Tryz.func13 rfl trivial ?_ rfl
 simp only [Tryz.ntmps13, List.size_toArray, List.length_cons, List.length_nil, Nat.reduceAdd, Nat.reduceSub, Array.replicate_succ, Array.replicate_zero, List.push_toArray, List.append_toArray, List.nil_append, List.cons_append]
 gi_wp2_with fail
 refine ⟨trivial, (callsIn_wide.2 hby.out).mono ?_⟩
 rintro e w1 ⟨v1, rfl, hg1, hb1⟩
 obtain ⟨A1, c1, rfl, hc1, hm1, hr1⟩ := hg1.shape
 have hS1 := Lib.hid (hS0.out.below hb1 (by simp))
 have hb01 := Lib.hid (hb0.out.trans (hb1.mono hb0.out.size))
 clear hby hS0 hb0 hb1
 gi_wp2_with fail
 refine ⟨trivial, (callsIn_wide.2 (chunk_any A1 _ c1 _)).mono ?_⟩
 rintro e w2 ⟨rfl, rfl⟩
 gi_wp2_with fail
 have hlS : (snapS i t z l).length ≤ 1052000 := snapS_le hm hz
 have K1 : Blk (((w1.alloc (Obj.cells #[Value.slice none 0 0] 46)).alloc (Obj.cells #[Value.slice A1 (snapS i t z l).length c1] 27)).alloc (Obj.cells #[Value.int IntKind.i64 400] 3)) (w1.heap.size + 1) 27 #[.slice A1 (snapS i t z l).length c1] := by
  have h := Blk.new (w1.alloc (Obj.cells #[Value.slice none 0 0] 46)) 27 #[.slice A1 (snapS i t z l).length c1]
  rw [show (w1.alloc (Obj.cells #[Value.slice none 0 0] 46)).heap.size = w1.heap.size + 1 by simp] at h
  exact h.alloc _
 have K2 : Blk (((w1.alloc (Obj.cells #[Value.slice none 0 0] 46)).alloc (Obj.cells #[Value.slice A1 (snapS i t z l).length c1] 27)).alloc (Obj.cells #[Value.int IntKind.i64 400] 3)) (w1.heap.size + 1 + 1) 3 #[.int .i64 400] := by
  have h := Blk.new ((w1.alloc (Obj.cells #[Value.slice none 0 0] 46)).alloc (Obj.cells #[Value.slice A1 (snapS i t z l).length c1] 27)) 3 #[.int .i64 400]
  rw [show ((w1.alloc (Obj.cells #[Value.slice none 0 0] 46)).alloc (Obj.cells #[Value.slice A1 (snapS i t z l).length c1] 27)).heap.size = w1.heap.size + 1 + 1 by simp] at h
  exact h
 have K0 : Boxed (((w1.alloc (Obj.cells #[Value.slice none 0 0] 46)).alloc (Obj.cells #[Value.slice A1 (snapS i t z l).length c1] 27)).alloc (Obj.cells #[Value.int IntKind.i64 400] 3)) w1.heap.size 46 (.slice none 0 0) := ((Boxed.new w1 46 (.slice none 0 0)).alloc _).alloc _
 have hbL : Below w1.heap.size w1 (((w1.alloc (Obj.cells #[Value.slice none 0 0] 46)).alloc (Obj.cells #[Value.slice A1 (snapS i t z l).length c1] 27)).alloc (Obj.cells #[Value.int IntKind.i64 400] 3)) := (((Below.refl _ w1).alloc (Nat.le_refl _) _).alloc (by simp) _).alloc (by simp; omega) _
 have HZ : Hid ((((w1.alloc (Obj.cells #[Value.slice none 0 0] 46)).alloc (Obj.cells #[Value.slice A1 (snapS i t z l).length c1] 27)).alloc (Obj.cells #[Value.int IntKind.i64 400] 3)).heap.size = w1.heap.size + 3) := Lib.hid (by simp)
 generalize hWL : ((w1.alloc (Obj.cells #[Value.slice none 0 0] 46)).alloc (Obj.cells #[Value.slice A1 (snapS i t z l).length c1] 27)).alloc (Obj.cells #[Value.int IntKind.i64 400] 3) = WL at K0 K1 K2 hbL HZ ⊢
 clear hWL
 obtain ⟨L, hL⟩ : ∃ L, L = snapS i t z l := ⟨_, rfl⟩
 rw [← hL] at hr1 hlS hc1 K1 ⊢
 have HL := Lib.hid hL
 clear hL
 have hws : w.heap.size + 1 ≤ w1.heap.size := by exact snapAt_lt hS1.out
 refine wpIn_rangeFunc_ownG (by rfl) (by omega) (gf := 99) (lb := #[.pointer (some ⟨w1.heap.size + 1, 0, none⟩), .pointer (some ⟨w1.heap.size + 1 + 1, 0, none⟩)]) rfl trivial (enters_of Tryz.func99 (by kernel_rfl) rfl)
  (chunk_stops (9 - 1) (by omega) (w1.heap.size + 1) (w1.heap.size + 1 + 1) 3000 A1 L.length c1 hc1 (by omega) (fun k hk => by omega) _ K1 K2)
  (fun h k => ⟨k.1.trans h.1, k.2.trans h.2⟩) (fun W q o o' hq _ _ _ => ⟨World.putObj_heap_other (by rw [HZ.out] at hq; omega), World.putObj_heap_other (by rw [HZ.out] at hq; omega)⟩) (Below.refl _ _) (fun _ => rfl)
  (fun pre W => (∃ v xs, Boxed W w1.heap.size 46 v ∧ GotPcs W (w1.heap.size + 3) v i t 0 xs (ckLs L pre)) ∧ Below w1.heap.size w1 W ∧ w1.heap.size + 3 ≤ W.heap.size ∧ pre.length = (ckLs L pre).length) (fun _ _ _ => False)
  (fun pre X Y row hs hg hr => by
   obtain ⟨⟨v, xs, hbx, hp⟩, hbe, hsz, hln⟩ := hs
   exact ⟨⟨v, xs, (grownBy_off hg (fun r e => (hr r e).2) hbx).trans hbx, hp.grown_off hg (fun r e => (hr r e).2)⟩, hbe.grown hg hbe.size (fun k e => by have := (hr k e).1; rw [HZ.out] at this; omega), Nat.le_trans hsz hg.size, hln⟩)
  (fun _ _ _ _ _ h _ _ => h) ⟨⟨_, [], K0, GotPcs.nil _ _ _ _ _⟩, hbL, by rw [HZ.out]; exact Nat.le_refl _, rfl⟩
  (fun x => { tmps := #[Value.agg #[Value.int IntKind.i64 i, Value.int IntKind.i64 t, Value.slice Av z.length cv, Value.slice Ad l.length cd], Value.pointer (some ⟨w.heap.size, 0, none⟩), Value.slice none 0 0, Value.int IntKind.i64 0, Value.slice A1 L.length c1, Value.int IntKind.i64 0, Value.pointer (some ⟨w1.heap.size, 0, none⟩), (Value.slice (cutA A1 (400 * x.1) (ckEnd L.length x.1)) (ckEnd L.length x.1 - 400 * x.1) (ckEnd L.length x.1 - 400 * x.1)), undef, Value.tuple #[Value.slice A1 L.length c1, Value.int IntKind.i64 0], Value.agg #[Value.int IntKind.i64 i, Value.int IntKind.i64 t, Value.slice Av z.length cv, Value.slice Ad l.length cd], Value.tuple #[Value.slice A1 L.length c1, Value.int IntKind.i64 0], Value.slice A1 L.length c1, Value.int IntKind.i64 0, Value.int IntKind.i64 0, Value.bool false, undef, Value.slice A1 L.length c1, Value.func (Fn.func 99) #[] #[Value.pointer (some ⟨w1.heap.size + 1, 0, none⟩), Value.pointer (some ⟨w1.heap.size + 1 + 1, 0, none⟩)], (Value.slice (cutA A1 (400 * x.1) (ckEnd L.length x.1)) (ckEnd L.length x.1 - 400 * x.1) (ckEnd L.length x.1 - 400 * x.1)), undef, undef, undef, undef, undef, undef, undef, undef, undef, undef, undef, undef, undef, undef, undef, undef, undef, undef, undef, undef, undef, undef, undef, undef, undef], defers := [] }) ?assign ?body ?done ?stop
 case stop => intro D c pre W _ _ h; exact h.elim
 case assign =>
  intro q x W K hK
  gi_wp2
  exact hK
 case body =>
  rintro q pre x W ⟨⟨v, xs, hBx, hG⟩, hbe, hsW, hln⟩ hlen
  obtain ⟨Av', cv', rfl, hcv1, hcv2, hcv3⟩ := hG.shape
  have hSn := hS1.out.below hbe (by omega)
  have hrL : Rd W w1.heap.size A1 (cells L) := hr1.below hbe
  have hck := rd_ck hrL x.2
  have c0 := hBx.cell
  obtain ⟨c1', c2', c3', c4'⟩ := hSn
  have HG := Lib.hid hG
  clear hG
  gi_wp2_with fail
  refine wpIn_region_roundT q 12 (by kernel_rfl) (fun _ _ h => h) (by kernel_rfl) (S := fun W' => W'.cell? ⟨w1.heap.size, 0, none⟩ = some (.slice Av' xs.length cv') ∧ W'.cell? ⟨w.heap.size, 0, none⟩ = some (.int .i64 i) ∧ W'.cell? ⟨w.heap.size, 1, none⟩ = some (.int .i64 t) ∧ True) ⟨c0, c1', c2', trivial⟩ (fun hHeld => ?_)
  refine heldT_take 0 (v := ?_) (by simp) (by kernel_rfl) (by kernel_rfl) (by kernel_rfl) (by kernel_rfl) (fun _ _ _ h => h) (Or.inl ⟨by rfl, ?_⟩) hHeld ?_
  case refine_2 => (intro w hSw; (try dsimp only at hSw); (try (obtain ⟨s0, s1, s2, s3⟩ := hSw)); simp only [List.getElem_cons_zero]; go_simp <;> with_reducible rfl)
  simp only [List.getElem_cons_zero, Act.put, List.setIfInBounds_toArray, List.set_cons_zero, List.set_cons_succ]
  refine heldT_take 1 (v := ?_) (by simp) (by kernel_rfl) (by kernel_rfl) (by kernel_rfl) (by kernel_rfl) (fun _ _ _ h => h) (Or.inl ⟨by rfl, ?_⟩) hHeld ?_
  case refine_2 => (intro w hSw; (try dsimp only at hSw); (try (obtain ⟨s0, s1, s2, s3⟩ := hSw)); simp only [List.getElem_cons_zero, List.getElem_cons_succ]; go_simp <;> with_reducible rfl)
  simp only [List.getElem_cons_zero, List.getElem_cons_succ, Act.put, List.setIfInBounds_toArray, List.set_cons_zero, List.set_cons_succ]
  refine heldT_take 2 (v := ?_) (by simp) (by kernel_rfl) (by kernel_rfl) (by kernel_rfl) (by kernel_rfl) (fun _ _ _ h => h) (Or.inl ⟨by rfl, ?_⟩) hHeld ?_
  case refine_2 => (intro w hSw; (try dsimp only at hSw); (try (obtain ⟨s0, s1, s2, s3⟩ := hSw)); simp only [List.getElem_cons_zero, List.getElem_cons_succ]; go_simp <;> with_reducible rfl)
  simp only [List.getElem_cons_zero, List.getElem_cons_succ, Act.put, List.setIfInBounds_toArray, List.set_cons_zero, List.set_cons_succ]
  refine heldT_take 3 (v := ?_) (by simp) (by kernel_rfl) (by kernel_rfl) (by kernel_rfl) (by kernel_rfl) (fun _ _ _ h => h) (Or.inl ⟨by rfl, ?_⟩) hHeld ?_
  case refine_2 => (intro w hSw; (try dsimp only at hSw); (try (obtain ⟨s0, s1, s2, s3⟩ := hSw)); simp only [List.getElem_cons_zero, List.getElem_cons_succ]; go_simp <;> with_reducible rfl)
  simp only [List.getElem_cons_zero, List.getElem_cons_succ, Act.put, List.setIfInBounds_toArray, List.set_cons_zero, List.set_cons_succ]
  refine heldT_take 4 (v := ?_) (by simp) (by kernel_rfl) (by kernel_rfl) (by kernel_rfl) (by kernel_rfl) (fun _ _ _ h => h) (Or.inl ⟨by rfl, ?_⟩) hHeld ?_
  case refine_2 => (intro w hSw; (try dsimp only at hSw); (try (obtain ⟨s0, s1, s2, s3⟩ := hSw)); simp only [List.getElem_cons_zero, List.getElem_cons_succ]; go_simp <;> with_reducible rfl)
  simp only [List.getElem_cons_zero, List.getElem_cons_succ, Act.put, List.setIfInBounds_toArray, List.set_cons_zero, List.set_cons_succ]
  refine heldT_take 5 (v := ?_) (by simp) (by kernel_rfl) (by kernel_rfl) (by kernel_rfl) (by kernel_rfl) (fun _ _ _ h => h) (Or.inl ⟨by rfl, ?_⟩) hHeld ?_
  case refine_2 => (intro w hSw; (try dsimp only at hSw); (try (obtain ⟨s0, s1, s2, s3⟩ := hSw)); simp only [List.getElem_cons_zero, List.getElem_cons_succ]; go_simp <;> with_reducible rfl)
  simp only [List.getElem_cons_zero, List.getElem_cons_succ, Act.put, List.setIfInBounds_toArray, List.set_cons_zero, List.set_cons_succ]
  refine heldT_take 6 (v := ?_) (by simp) (by kernel_rfl) (by kernel_rfl) (by kernel_rfl) (by kernel_rfl) (fun _ _ _ h => h) (Or.inl ⟨by rfl, ?_⟩) hHeld ?_
  case refine_2 => (intro w hSw; (try dsimp only at hSw); (try (obtain ⟨s0, s1, s2, s3⟩ := hSw)); simp only [List.getElem_cons_zero, List.getElem_cons_succ]; go_simp <;> with_reducible rfl)
  simp only [List.getElem_cons_zero, List.getElem_cons_succ, Act.put, List.setIfInBounds_toArray, List.set_cons_zero, List.set_cons_succ]
  refine heldT_take 7 (v := ?_) (by simp) (by kernel_rfl) (by kernel_rfl) (by kernel_rfl) (by kernel_rfl) (fun _ _ _ h => h) (Or.inl ⟨by rfl, ?_⟩) hHeld ?_
  case refine_2 => (intro w hSw; (try dsimp only at hSw); (try (obtain ⟨s0, s1, s2, s3⟩ := hSw)); simp only [List.getElem_cons_zero, List.getElem_cons_succ]; go_simp <;> with_reducible rfl)
  simp only [List.getElem_cons_zero, List.getElem_cons_succ, Act.put, List.setIfInBounds_toArray, List.set_cons_zero, List.set_cons_succ]
  refine heldT_sole 8 (by simp) (by kernel_rfl) (fun K hK => ?_)
  simp only [List.getElem_cons_zero, List.getElem_cons_succ]
  go_simp
  refine (clone_any _ (ckL L x.1) _ _ ckL_length.symm W.drew (hck.more (by simp; omega)) (by have := @ckL_le L x.1; omega)).mono ?_
  rintro e W1 ⟨v3, rfl, hov3, hb3⟩
  replace hb3 : Below W.heap.size W W1 := below_undrew hb3
  have hgot3 := Lib.hid (Got.of_own (show Bs W1 W.heap.size v3 (ckL L x.1) from hov3))
  obtain ⟨A3, c3, rfl, _, _, _⟩ := bs_shape hov3
  have c0 : W1.cell? ⟨w1.heap.size, 0, none⟩ = some (.slice Av' xs.length cv') := (hb3.cell (p := ⟨w1.heap.size, 0, none⟩) (by show w1.heap.size < W.heap.size; omega)).trans c0
  have c1' : W1.cell? ⟨w.heap.size, 0, none⟩ = some (.int .i64 i) := (hb3.cell (p := ⟨w.heap.size, 0, none⟩) (by show w.heap.size < W.heap.size; omega)).trans c1'
  have c2' : W1.cell? ⟨w.heap.size, 1, none⟩ = some (.int .i64 t) := (hb3.cell (p := ⟨w.heap.size, 1, none⟩) (by show w.heap.size < W.heap.size; omega)).trans c2'
  have HB3 := Lib.hid hb3
  clear hov3 hb3
  go_wp2_with fail
  refine hK.out _ _ ⟨c0, c1', c2', trivial⟩ (fun hHeld => ?_)
  clear hK K
  try simp only [Act.put, List.setIfInBounds_toArray, List.set_cons_zero, List.set_cons_succ]
  refine heldT_take 9 (v := ?_) (by simp) (by kernel_rfl) (by kernel_rfl) (by kernel_rfl) (by kernel_rfl) (fun _ _ _ h => h) (Or.inl ⟨by rfl, ?_⟩) hHeld ?_
  case refine_2 => (intro w hSw; (try dsimp only at hSw); (try (obtain ⟨s0, s1, s2, s3⟩ := hSw)); simp only [List.getElem_cons_zero, List.getElem_cons_succ]; go_simp <;> with_reducible rfl)
  simp only [List.getElem_cons_zero, List.getElem_cons_succ, Act.put, List.setIfInBounds_toArray, List.set_cons_zero, List.set_cons_succ]
  refine heldT_sole 10 (by simp) (by kernel_rfl) (fun K hK => ?_)
  simp only [List.getElem_cons_zero, List.getElem_cons_succ]
  go_simp
  have hbA : Below W1.heap.size W1 (W1.alloc (.cells #[.int .i64 i, .int .i64 t, .int .i64 (xs.length : Int), .int .i64 0, .slice A3 (ckL L x.1).length c3] 102)) := (Below.refl _ W1).alloc (Nat.le_refl _) _
  have hKA : Blk (W1.alloc (.cells #[.int .i64 i, .int .i64 t, .int .i64 (xs.length : Int), .int .i64 0, .slice A3 (ckL L x.1).length c3] 102)) W1.heap.size 102 [.int .i64 i, .int .i64 t, .int .i64 (xs.length : Int), .int .i64 0, .slice A3 (ckL L x.1).length c3].toArray := Blk.new _ _ _
  have hsA : (W1.alloc (.cells #[.int .i64 i, .int .i64 t, .int .i64 (xs.length : Int), .int .i64 0, .slice A3 (ckL L x.1).length c3] 102)).heap.size = W1.heap.size + 1 := by simp
  generalize hWA : W1.alloc (.cells #[.int .i64 i, .int .i64 t, .int .i64 (xs.length : Int), .int .i64 0, .slice A3 (ckL L x.1).length c3] 102) = WA at hbA hKA hsA ⊢
  have hsW1 : W.heap.size ≤ W1.heap.size := HB3.out.size
  have c0 : WA.cell? ⟨w1.heap.size, 0, none⟩ = some (.slice Av' xs.length cv') := (hbA.cell (p := ⟨w1.heap.size, 0, none⟩) (by show w1.heap.size < W1.heap.size; omega)).trans c0
  have c1' : WA.cell? ⟨w.heap.size, 0, none⟩ = some (.int .i64 i) := (hbA.cell (p := ⟨w.heap.size, 0, none⟩) (by show w.heap.size < W1.heap.size; omega)).trans c1'
  have c2' : WA.cell? ⟨w.heap.size, 1, none⟩ = some (.int .i64 t) := (hbA.cell (p := ⟨w.heap.size, 1, none⟩) (by show w.heap.size < W1.heap.size; omega)).trans c2'
  have HKO := Lib.hid (show KeepsOthers W WA from (KeepsOthers.of_grownBy (grown_of_below HB3.out none) (fun _ _ h => by cases h)).trans (by rw [← hWA]; exact KeepsOthers.alloc _ _))
  have HBA := Lib.hid (HB3.out.trans (hbA.mono hsW1))
  have HGA := Lib.hid (HG.out.below HBA.out (Nat.le_refl _))
  have HX := Lib.hid (hgot3.out.below hbA (Nat.le_refl _))
  have hsA2 : W.heap.size + 1 ≤ WA.heap.size := by omega
  clear hWA hbA hsA
  refine hK.out _ _ ⟨c0, c1', c2', trivial⟩ (fun hHeld => ?_)
  clear hK K
  try simp only [Act.put, List.setIfInBounds_toArray, List.set_cons_zero, List.set_cons_succ]
  refine heldT_sole 11 (by simp) (by kernel_rfl) (fun K hK => ?_)
  simp only [List.getElem_cons_zero, List.getElem_cons_succ]
  rw [if_pos (by rfl)]
  refine wp_append_size (.tmp 20) (.tmp 30) 46 rfl (w1.heap.size + 3) 102 (.agg #[.int .i64 0, .int .i64 0, .int .i64 0, .int .i64 0, .slice none 0 0]) 5 56 Tryz.underlying46 info_piece rfl (by decide) _ xs.length _ rfl HGA.out.own ⟨W1.heap.size, 0, none⟩ 1 1 [.int .i64 i, .int .i64 t, .int .i64 (xs.length : Int), .int .i64 0, .slice A3 (ckL L x.1).length c3] rfl rfl (blk_add hKA) (by simp [Value.oneCell']) (by rw [HG.out.len, ← hln]; unfold maxLen; omega) (by rw [HG.out.len, ← hln]; omega) (by omega) ?_
  intro v4 w4 hown4 hg4 hf4
  have HP := Lib.hid (GotPcs.push HG.out HBA.out HX.out (by omega) hown4 hg4 hf4)
  have hb4 : Below (w1.heap.size + 3) WA w4 := (Below.refl _ WA).grown hg4 (by omega) (fun k hk => (HGA.out.own.lt k hk).1)
  have HKO4 := Lib.hid (HKO.out.trans (KeepsOthers.of_grownBy hg4 (fun j o hj ho => by obtain ⟨cs, hc⟩ := ownsRow_held HGA.out.own hj; rw [hc] at ho; cases ho; rfl)))
  obtain ⟨A4, c4, rfl, _, _, _⟩ := HP.out.shape
  have c0 : w4.cell? ⟨w1.heap.size, 0, none⟩ = some (.slice Av' xs.length cv') := (hb4.cell (p := ⟨w1.heap.size, 0, none⟩) (by show w1.heap.size < w1.heap.size + 3; omega)).trans c0
  have c1' : w4.cell? ⟨w.heap.size, 0, none⟩ = some (.int .i64 i) := (hb4.cell (p := ⟨w.heap.size, 0, none⟩) (by show w.heap.size < w1.heap.size + 3; omega)).trans c1'
  have c2' : w4.cell? ⟨w.heap.size, 1, none⟩ = some (.int .i64 t) := (hb4.cell (p := ⟨w.heap.size, 1, none⟩) (by show w.heap.size < w1.heap.size + 3; omega)).trans c2'
  have HB4 := Lib.hid ((HBA.out.mono (show w1.heap.size + 3 ≤ W.heap.size from hsW)).trans hb4)
  have hBx4 : Boxed w4 w1.heap.size 46 (.slice Av' xs.length cv') := (HB4.out.block _ (by omega)).trans hBx
  have f0 := hBx4.frozen
  clear hown4 hg4 hf4 hb4
  refine hK.out _ _ ⟨c0, c1', c2', trivial⟩ (fun hHeld => ?_)
  clear hK K
  try simp only [Act.put, List.setIfInBounds_toArray, List.set_cons_zero, List.set_cons_succ]
  refine heldT_last (t := 12) (by simp) (by kernel_rfl) (by kernel_rfl) (fun K hK => ?_)
  simp only [List.getElem_cons_zero, List.getElem_cons_succ]
  go_simp
  refine hK.out _ _ ?_
  have hP5 := HP.out
  rw [List.length_append, List.length_singleton] at hP5
  have hBx5 : Boxed (w4.setCell ⟨w1.heap.size, 0, none⟩ (.slice A4 (xs.length + 1) c4)) w1.heap.size 46 (.slice A4 (xs.length + 1) c4) := hBx4.set _
  have hLs : ckLs L (pre ++ [x]) = ckLs L pre ++ [ckL L x.1] := by simp [ckLs]
  refine ⟨(HKO4.out.trans (KeepsOthers.setCell _ _ _)).from _, ⟨?_, ?_⟩, ⟨_, xs ++ [.slice A3 (ckL L x.1).length c3], hBx5, ?_⟩, ?_, ?_, ?_⟩
  ·exact (Below.heap_setCell _ _ _ _ (by show w1.heap.size + 1 ≠ w1.heap.size; omega)).trans (HB4.out.block _ (by omega))
  ·exact (Below.heap_setCell _ _ _ _ (by show w1.heap.size + 1 + 1 ≠ w1.heap.size; omega)).trans (HB4.out.block _ (by omega))
  ·rw [hLs]
   exact hP5.far (by show w1.heap.size < w1.heap.size + 3; omega) _
  ·exact (hbe.trans (HB4.out.mono (by omega))).setCell (p := ⟨w1.heap.size, 0, none⟩) (Nat.le_refl _) _
  ·have := HB4.out.size
   simp
   omega
  ·simp [ckLs]
 case done =>
  rintro D ys W hD hall ⟨⟨v, xs, hBx, hG⟩, hbe, hsW, hln⟩ hDef
  obtain ⟨Av', cv', rfl, hcv1, hcv2, hcv3⟩ := hG.shape
  rw [ckLs_all hall] at hG
  have HG := Lib.hid hG
  have HD := Lib.hid hDef
  have hl3 : xs.length ≤ 3000 := by rw [hG.len, chunksL_length]; omega
  have c0 := hBx.cell
  rw [HZ.out] at hD
  clear hG hDef
  gi_wp2_with fail
  gi_loopw [34] (fun n wr => ∃ k : Nat, k ≤ xs.length ∧ n = .int .i64 k ∧ Hid (Boxed wr w1.heap.size 46 (.slice Av' xs.length cv')) ∧ Hid (MidPcs wr (w1.heap.size + 3) (.slice Av' xs.length cv') i t xs.length k xs (chunksL L)) ∧ Hid (Below w1.heap.size w1 wr) ∧ Hid (wr.heap[D]? = some (.deferred (some [])))) (fun n _ => xs.length - (intOf n).toNat)
  case atStart => exact ⟨0, by omega, rfl, Lib.hid hBx, Lib.hid (MidPcs.start HG.out _), Lib.hid hbe, HD⟩
  case round =>
   obtain ⟨k, hk, rfl, hB, hM, hbw, hD2⟩ := hrel
   clear c0
   have c0 := hB.out.cell
   by_cases hlt : k < xs.length
   ·obtain ⟨g, rfl, hg1, hg2⟩ := hcv3 (by omega)
    obtain ⟨⟨u, hu⟩, hf⟩ := hM.out.at_ hlt
    have hne : D ≠ g := fun e => by
     obtain ⟨cs, hc⟩ := ownsRow_held hM.out.own (g := g) rfl
     have := HD.out
     rw [← e, hD2.out] at hc
     cases hc
    have hB' := Lib.hid (show Boxed (wr.setCell ⟨g, k * 5 + 3, none⟩ (.int .i64 (xs.length : Int))) w1.heap.size 46 (.slice (some ⟨g, 0, none⟩) xs.length cv') from hB.out.other' (by show w1.heap.size ≠ g; omega) _)
    have hM' := Lib.hid (hM.out.step hlt)
    have hb' := Lib.hid (hbw.out.setCell (p := ⟨g, k * 5 + 3, none⟩) (by show w1.heap.size ≤ g; omega) (.int .i64 (xs.length : Int)))
    have hD' := Lib.hid ((Below.heap_setCell wr ⟨g, k * 5 + 3, none⟩ (.int .i64 (xs.length : Int)) D hne).trans hD2.out)
    clear hbw
    gi_wp2_with fail
    go_roundw
    case rel => exact ⟨k + 1, by omega, by go_num, hB', hM', hb', hD'⟩
    case measure => simp [intOf]; omega
   ·obtain rfl : k = xs.length := by omega
    have HF := Lib.hid hM.out.done
    clear hM
    gi_wp2_with fail
    refine ⟨by simp, .inl ⟨_, _, rfl, run_takeDeferred hD2.out, ?_⟩⟩
    refine ⟨_, results_tmp2 rfl _ _ _, _, xs, rfl, ?_, ?_⟩
    ·rw [← HL.out]
     exact (HF.out.grown_off (grownBy_putObj' wr D (.deferred none)) (fun r e => by cases e; exact ⟨_, hD2.out, rfl⟩)).mono (by omega)
    ·exact (hb01.out.trans (hbw.out.mono (by omega))).trans (belowK_b (w := w) (Nat.le_refl _) wr D _ _ (by omega) hD2.out rfl rfl)
set_option maxHeartbeats 1000000 in
set_option maxRecDepth 100000 in
theorem pieces_any (i t : Int) (Av Ad : Option Addr) (z : List Int) (l : List UInt8) (nv cv nd cd : Nat) (hv : nv = z.length) (hd : nd = l.length) (w : World) (hr : Rd w w.heap.size Av (z.map (Value.int .i64))) (hr2 : Rd w w.heap.size Ad (cells l))
  (hz : ∀ n ∈ z, -9223372036854775808 ≤ n ∧ n ≤ 9223372036854775807) (hl : z.length ≤ 140737488351232) (hl2 : l.length ≤ 4611686018427387904) :
  Calls Tryz.prog 13 #[snapV i t Av nv cv Ad nd cd] w fun e w' => ∃ v xs, e = .returned (.tuple #[v, .int .i64 (snapE i t z l)]) ∧ GotPcs w' w.heap.size v i t xs.length xs (chunksL (snapS i t z l)) ∧ Below w.heap.size w w' := by
 by_cases hm : mayB i t z l = true
 ·have hE : snapE i t z l = 0 := if_pos hm
  rw [hE]
  exact pieces_ok i t Av Ad z l nv cv nd cd hv hd w hr hr2 hz hl hl2 hm
 ·have hE : snapE i t z l = 1 := if_neg hm
  have hS : snapS i t z l = [] := if_neg hm
  subst hv; subst hd
  have hby := bytes_any i t Av Ad z l _ cv _ cd rfl rfl
  rw [hE] at hby ⊢
  rw [hS] at hby ⊢
  unfold snapV at hby ⊢
  have hb0 := Lib.hid ((Below.refl w.heap.size w).alloc (Nat.le_refl _) (Obj.cells #[.int .i64 i, .int .i64 t, .slice Av z.length cv, .slice Ad l.length cd] 29))
  have hS0 := Lib.hid (snapAt_new w i t (.slice Av z.length cv) (.slice Ad l.length cd))
  have hby := Lib.hid (hby (w.alloc (Obj.cells #[.int .i64 i, .int .i64 t, .slice Av z.length cv, .slice Ad l.length cd] 29)) ((hr.below hb0.out).more hb0.out.size) ((hr2.below hb0.out).more hb0.out.size) hz hl hl2)
  have hE' := Lib.hid hE
  clear hm hE hS
  go_enter Tryz.func13, Tryz.ntmps13
  go_wp2_with fail
  refine hby.out.mono ?_
  clear hby
  rintro e w1 ⟨v1, rfl, hg1, hb1⟩
  have hb01 := Lib.hid (hb0.out.trans (hb1.mono hb0.out.size))
  clear hb0 hb1
  go_wp2
  go_ret2
  exact ⟨_, [], rfl, GotPcs.nil _ _ _ _ _, hb01.out⟩
end Go.Proofs.YteehkcpokgeipaaGreatDoor
set_option linter.unusedVariables false
namespace Go.Proofs.YteehkcpokgeipaaGreatDoor
open Go.RowKit Oct
theorem rd_ck2 {w : World} {B : Nat} {A : Option Addr} {l : List UInt8} {k c : Nat} (h : Rd w B A (cells l)) (hk : 400 * k < l.length) (hc : l.length ≤ c) : Rd w B (cutA A (400 * k) c) (cells (ckL l k)) := by
 have h1 := (h.cutA (k := 400 * k) (cap := c) (by rw [cells_length]; omega) (by rw [cells_length]; exact hc)).take (ckEnd l.length k - 400 * k)
 have h2 : ((cells l).drop (400 * k)).take (ckEnd l.length k - 400 * k) = cells (ckL l k) := by
  simp only [cells, ckL, ← List.map_drop, ← List.map_take, List.drop_take]
 rw [h2] at h1
 exact h1
theorem ck_made {wr w2 : World} {v2 : Value} {l : List UInt8} (h0 : Own (wr.alloc (.cells #[] 5)) wr.heap.size 5 (.slice (some ⟨wr.heap.size, 0, none⟩) 0 0) []) (hov : Own w2 wr.heap.size 5 v2 ([] ++ cells l)) (hg : (wr.alloc (.cells #[] 5)).grownBy w2 (Value.ownBlock (.slice (some ⟨wr.heap.size, 0, none⟩) 0 0))) :
  ∃ A c, v2 = .slice A l.length c ∧ l.length ≤ c ∧ c ≤ 9223372036854775807 ∧ Hid (Got w2 wr.heap.size (.slice A l.length c) l) ∧ Below wr.heap.size wr w2 := by
 have h : Bs w2 wr.heap.size v2 l := by simpa [Bs] using hov
 obtain ⟨A, c, rfl, h1, h2, _⟩ := bs_shape h
 exact ⟨A, c, rfl, h1, h2, Lib.hid (Got.of_own h), ((Below.refl _ wr).alloc (Nat.le_refl _) _).grown hg (by simp) (fun k hk => (h0.lt k hk).1)⟩
theorem ck_out {w wr w2 : World} {e : TypeId} {u : Value} {xs : List Value} (h : Own wr w.heap.size e u xs) (hb : Below w.heap.size w wr) (hb2 : Below wr.heap.size wr w2) : Own w2 w.heap.size e u xs ∧ Below w.heap.size w w2 :=
 ⟨h.below hb2 (Nat.le_refl _), hb.trans (hb2.mono hb.size)⟩
def CkAll' (l : List UInt8) (k : Nat) : Prop := l.length ≤ 400 * k ∧ ∀ j, j < k → 400 * j < l.length
theorem ck_all {l : List UInt8} {k : Nat} (h : CkAll' l k) : chunksL l = (List.range k).map (ckL l) := by
 obtain ⟨h1, h2⟩ := h
 have hk : (l.length + 399) / 400 = k := by
  rcases Nat.eq_zero_or_pos k with h0 | h0
  ·subst h0; omega
  ·have := h2 (k - 1) (by omega); omega
 unfold chunksL
 rw [hk]
set_option maxHeartbeats 2000000 in
set_option maxRecDepth 100000 in
theorem rchunks_any (A : Option Addr) (l : List UInt8) (n c : Nat) (hn : n = l.length) (w : World) (hr : Rd w w.heap.size A (cells l)) (hlc : l.length ≤ c) (hl : l.length ≤ 1099511627776 ∧ c ≤ 9223372036854775807) :
  Calls Tryz.prog 115 #[.slice A n c] w fun e w' => ∃ v xs, e = .returned v ∧ GotRows w' w.heap.size v xs (chunksL l) ∧ Below w.heap.size w w' := by
 subst hn
 obtain ⟨hl1, hl2⟩ := hl
 go_enter Tryz.func115, Tryz.ntmps115
 go_wp2_with fail
 go_loopw [3, 4, 5] (fun v at_ _ wr => ∃ (k : Nat) (xs : List Value), at_ = .int .i64 (400 * (k : Int)) ∧ Hid (∀ j, j < k → 400 * j < l.length) ∧ Hid (GotRows wr w.heap.size v xs ((List.range k).map (ckL l))) ∧ Below w.heap.size w wr) (fun _ i _ _ => l.length + 400 - (intOf i).toNat)
 case atStart => exact ⟨0, [], rfl, Lib.hid (fun j hj => by omega), Lib.hid (GotRows.nil _ _), Below.refl _ _⟩
 case round =>
  obtain ⟨k, xs, rfl, hk, HG, hb⟩ := hrel
  by_cases hlt : 400 * k < l.length
  ·have hltI : 400 * (k : Int) < l.length := by omega
   have hck := Lib.hid (@ckL_length l k)
   have hcl : (ckL l k).length ≤ 400 := ckL_le
   have hrd : Rd wr w.heap.size (cutA A (400 * k) c) (cells (ckL l k)) := (rd_ck2 hr hlt hlc).below hb
   have hlen := HG.out.len
   have HLEN := Lib.hid hlen
   have hxs : xs.length ≤ k := by rw [hlen]; simp
   have hk2 : 400 * k ≤ l.length := by omega
   obtain ⟨E, hcut, HE⟩ : ∃ E : Nat, (∀ W : World, (Instr.slice 27 (.slice A l.length c) (some (.int .i64 (400 * (k : Int)))) (some (.int .i64 (if (l.length : Int) < 400 * (k : Int) + 400 then (l.length : Int) else 400 * (k : Int) + 400))) none).run Tryz.prog W = .ok (.slice (cutA A (400 * k) c) (E - 400 * k) (c - 400 * k)) W) ∧ Hid (E - 400 * k = (ckL l k).length) := by
    refine ⟨ckEnd l.length k, fun W => run_cut (P := Tryz.prog) Tryz.underlying27 info_u8 A l.length c (400 * k) (ckEnd l.length k) (by unfold ckEnd; omega) (by unfold ckEnd; omega) _ _ (by omega) (by unfold ckEnd; split <;> omega) W, Lib.hid ckL_length.symm⟩
   have hEb : E - 400 * k ≤ 400 := by rw [HE.out]; exact hcl
   generalize hN : E - 400 * k = N at hcut HE hEb ⊢
   clear hN E
   clear hlen
   have hxl0 : xs.length + 1 ≤ 9223372036854775807 := by omega
   have hxm0 : (xs.length + 1) * 24 ≤ 140737488355328 := by omega
   rcases Int.lt_or_le (l.length : Int) (400 * (k : Int) + 400) with h4 | h4
   ·rw [if_pos h4] at hcut
    have hown0 := own_nothing wr wr.heap.size 5 (Nat.le_refl _)
    have tok1 : True := trivial
    go_wp2_with (first | (at_builtin; have _t := tok1; refine wpList_append_any rfl (.tmp 18) (.tmp 22) 27 rfl wr.heap.size 5 (.int .u8 0) 1 Tryz.underlying27 info_u8 rfl _ _ rfl hown0 w.heap.size (cutA A (400 * k) c) N (c - 400 * k) _ rfl (by rw [cells_length]; exact HE.out) (hrd.alloc hb.size _) (bytes_oneCell _) (by unfold maxLen; simp; omega) (by simp; omega) (by simp) ?_; intro v2 w2 hov2 hg2 hf2; clear tok1 _t; obtain ⟨A2, c2, rfl, hc2, hm2, hGP, hb2⟩ := ck_made hown0 hov2 hg2; obtain ⟨hvo2, hb02⟩ := ck_out HG.out.own hb hb2; have hs2 : w.heap.size ≤ w2.heap.size := hb02.size; have hxl : xs.length + 1 ≤ 9223372036854775807 := hxl0; have hxm : (xs.length + 1) * 24 ≤ 140737488355328 := hxm0; clear hov2 hg2 hf2) | (at_builtin; refine wpList_push2 (w := w2) rfl (.tmp 17) (.tmp 24) 54 rfl w.heap.size 27 (.slice none 0 0) 24 Tryz.underlying54 info_bytes rfl u3 xs _ rfl rfl hvo2 rfl rfl hxl hxm hs2 ?_; intro v3 w3 hov3 hg3 hf3; have hgr := Lib.hid (HG.out.push hb2 hGP.out hb.size hov3 hg3 hf3); have hb03 : Below w.heap.size w w3 := hb02.grown hg3 hs2 (fun k hk => (hvo2.lt k hk).1); clear hov3 hg3 hf3 hvo2))
    go_roundw
    case rel => exact ⟨k + 1, xs ++ [.slice A2 (ckL l k).length c2], by go_num, Lib.hid (fun j hj => by have := hk.out j; omega), by rw [List.range_succ, List.map_append]; exact hgr, hb03⟩
    case measure => simp [intOf]; omega
   ·rw [if_neg (by omega)] at hcut
    have hown0 := own_nothing wr wr.heap.size 5 (Nat.le_refl _)
    have tok1 : True := trivial
    go_wp2_with (first | (at_builtin; have _t := tok1; refine wpList_append_any rfl (.tmp 18) (.tmp 22) 27 rfl wr.heap.size 5 (.int .u8 0) 1 Tryz.underlying27 info_u8 rfl _ _ rfl hown0 w.heap.size (cutA A (400 * k) c) N (c - 400 * k) _ rfl (by rw [cells_length]; exact HE.out) (hrd.alloc hb.size _) (bytes_oneCell _) (by unfold maxLen; simp; omega) (by simp; omega) (by simp) ?_; intro v2 w2 hov2 hg2 hf2; clear tok1 _t; obtain ⟨A2, c2, rfl, hc2, hm2, hGP, hb2⟩ := ck_made hown0 hov2 hg2; obtain ⟨hvo2, hb02⟩ := ck_out HG.out.own hb hb2; have hs2 : w.heap.size ≤ w2.heap.size := hb02.size; have hxl : xs.length + 1 ≤ 9223372036854775807 := hxl0; have hxm : (xs.length + 1) * 24 ≤ 140737488355328 := hxm0; clear hov2 hg2 hf2) | (at_builtin; refine wpList_push2 (w := w2) rfl (.tmp 17) (.tmp 24) 54 rfl w.heap.size 27 (.slice none 0 0) 24 Tryz.underlying54 info_bytes rfl u3 xs _ rfl rfl hvo2 rfl rfl hxl hxm hs2 ?_; intro v3 w3 hov3 hg3 hf3; have hgr := Lib.hid (HG.out.push hb2 hGP.out hb.size hov3 hg3 hf3); have hb03 : Below w.heap.size w w3 := hb02.grown hg3 hs2 (fun k hk => (hvo2.lt k hk).1); clear hov3 hg3 hf3 hvo2))
    go_roundw
    case rel => exact ⟨k + 1, xs ++ [.slice A2 (ckL l k).length c2], by go_num, Lib.hid (fun j hj => by have := hk.out j; omega), by rw [List.range_succ, List.map_append]; exact hgr, hb03⟩
    case measure => simp [intOf]; omega
  ·have hall : CkAll' l k := ⟨by omega, hk.out⟩
   have hgo := Lib.hid (HG.out)
   clear HG
   go_wp2
   go_ret
   exact ⟨_, xs, rfl, by rw [ck_all hall]; exact hgo.out, hb⟩
end Go.Proofs.YteehkcpokgeipaaGreatDoor
set_option linter.unusedVariables false
namespace Go.Proofs.YteehkcpokgeipaaGreatDoor
open Go.RowKit Oct
def PcRd (w : World) (B : Nat) (A : Option Addr) (i t many : Int) (ls : List (List UInt8)) : Prop :=
 ∀ k (hk : k < ls.length), ∃ g a c, A = some ⟨g, 0, none⟩ ∧ g < B ∧ w.cell? ⟨g, k * 5, none⟩ = some (.int .i64 i) ∧ w.cell? ⟨g, k * 5 + 1, none⟩ = some (.int .i64 t) ∧ w.cell? ⟨g, k * 5 + 2, none⟩ = some (.int .i64 k) ∧ w.cell? ⟨g, k * 5 + 3, none⟩ = some (.int .i64 many) ∧ w.cell? ⟨g, k * 5 + 4, none⟩ = some (.slice a ls[k].length c) ∧ Rd w B a (cells ls[k]) ∧ ls[k].length ≤ c
theorem PcRd.below {w w' : World} {B B' : Nat} {A : Option Addr} {i t many : Int} {ls : List (List UInt8)} (h : PcRd w B A i t many ls) (hb : Below B' w w') (hB : B ≤ B') : PcRd w' B A i t many ls := fun k hk => by
 obtain ⟨g, a, c, h1, h2, h3, h4, h5, h6, h7, h8, h9⟩ := h k hk
 have hc : ∀ j, w'.cell? ⟨g, j, none⟩ = w.cell? ⟨g, j, none⟩ := fun j => hb.cell (p := ⟨g, j, none⟩) (Nat.lt_of_lt_of_le h2 hB)
 exact ⟨g, a, c, h1, h2, (hc _).trans h3, (hc _).trans h4, (hc _).trans h5, (hc _).trans h6, (hc _).trans h7, h8.below (hb.mono hB), h9⟩
theorem PcRd.more {w : World} {B B' : Nat} {A : Option Addr} {i t many : Int} {ls : List (List UInt8)} (h : PcRd w B A i t many ls) (hB : B ≤ B') : PcRd w B' A i t many ls := fun k hk => by
 obtain ⟨g, a, c, h1, h2, h3, h4, h5, h6, h7, h8, h9⟩ := h k hk
 exact ⟨g, a, c, h1, by omega, h3, h4, h5, h6, h7, h8.more hB, h9⟩
theorem add_zero_lit (g j : Nat) : (⟨g, 0, none⟩ : Addr).add j = ⟨g, j, none⟩ := by unfold Addr.add; split <;> simp_all
end Go.Proofs.YteehkcpokgeipaaGreatDoor
set_option linter.unusedVariables false
namespace Go.Proofs.YteehkcpokgeipaaGreatDoor
open Go.RowKit Oct
theorem small_facts : snapE 3 1 [1, 2] [100] = 0 ∧ snapS 3 1 [1, 2] [100] = [6, 2, 2, 2, 4, 100] ∧ oE [6, 2, 2, 2, 4, 100] = 0 ∧ oI [6, 2, 2, 2, 4, 100] = 3 := by
 refine ⟨by decide +kernel, by decide +kernel, by decide +kernel, by decide +kernel⟩
theorem small_facts2 : snapE 0 0 [] (List.replicate 500 0) = 0 ∧ (chunksL (snapS 0 0 [] (List.replicate 500 0))).length = 2 := by
 refine ⟨by decide +kernel, ?_⟩
 rw [chunksL_length]
 decide +kernel
set_option maxHeartbeats 4000000 in
set_option maxRecDepth 100000 in
theorem keepSmall (w : World) : Calls Tryz.prog 5 #[] w fun e w' => e = .returned (.bool true) ∧ Below w.heap.size w w' := by
 obtain ⟨F1, F2, F3, F4⟩ := small_facts
 obtain ⟨F5, F6⟩ := small_facts2
 have hF1 := Lib.hid F1
 have hF2 := Lib.hid F2
 have hF3 := Lib.hid F3
 have hF4 := Lib.hid F4
 have hF5 := Lib.hid F5
 have hF6 := Lib.hid F6
 have hsz1 : (w.alloc (.cells #[.int .i64 1, .int .i64 2] 3)).heap.size = w.heap.size + 1 := by simp
 have kc := Lib.run_convert_bytes_const (P := Tryz.prog) (w.alloc (.cells #[.int .i64 1, .int .i64 2] 3)) 27 5 #[.int .u8 100] 1 1 Tryz.underlying27 Tryz.underlying5
 rw [hsz1] at kc
 have hb0 := Lib.hid (((Below.refl w.heap.size w).alloc (Nat.le_refl _) (.cells #[.int .i64 1, .int .i64 2] 3)).alloc (by rw [hsz1]; omega) (.cells #[.int .u8 100] 5 (1, 2)))
 have hR1 : Rd ((w.alloc (.cells #[.int .i64 1, .int .i64 2] 3)).alloc (.cells #[.int .u8 100] 5 (1, 2))) ((w.alloc (.cells #[.int .i64 1, .int .i64 2] 3)).alloc (.cells #[.int .u8 100] 5 (1, 2))).heap.size (some ⟨w.heap.size, 0, none⟩) ([1, 2].map (Value.int .i64)) := fun _ =>
  ⟨_, rfl, by simp; omega, fun j u hj => by
   rw [add_zero_lit, World.cell?_alloc_lt _ _ _ (by rw [hsz1]; show w.heap.size < _; omega)]
   exact ((Blk.new w 3 #[.int .i64 1, .int .i64 2]).cell j).trans (by simpa using hj)⟩
 have hR2 : Rd ((w.alloc (.cells #[.int .i64 1, .int .i64 2] 3)).alloc (.cells #[.int .u8 100] 5 (1, 2))) ((w.alloc (.cells #[.int .i64 1, .int .i64 2] 3)).alloc (.cells #[.int .u8 100] 5 (1, 2))).heap.size (some ⟨w.heap.size + 1, 0, none⟩) (cells [100]) := fun _ =>
  ⟨_, rfl, by simp, fun j u hj => by
   rw [add_zero_lit]
   have h := cell_of_row ((w.alloc (.cells #[.int .i64 1, .int .i64 2] 3)).alloc (.cells #[.int .u8 100] 5 (1, 2))) (w.heap.size + 1) j #[.int .u8 100] 5 (1, 2) (by rw [← hsz1]; exact World.alloc_heap_new _ _)
   exact h.trans (by simpa [cells] using hj)⟩
 have HR1 := Lib.hid hR1
 have HR2 := Lib.hid hR2
 clear F1 F2 F3 F4 F5 F6 hR1 hR2 hsz1
 go_enter Tryz.func5, Tryz.ntmps5
 go_wp2_with fail
 generalize hW0 : (w.alloc (.cells #[.int .i64 1, .int .i64 2] 3)).alloc (.cells #[.int .u8 100] 5 (1, 2)) = W0 at HR1 HR2 hb0 ⊢
 clear kc hW0
 refine (bytes_any 3 1 (some ⟨w.heap.size, 0, none⟩) (some ⟨w.heap.size + 1, 0, none⟩) [1, 2] [100] 2 2 1 1 rfl rfl W0 HR1.out HR2.out (by simp) (by simp) (by simp)).mono ?_
 rintro e w1 ⟨v1, rfl, hg1, hb1⟩
 rw [hF1.out]
 rw [hF2.out] at hg1
 obtain ⟨A1, c1, rfl, hc1, hm1, hr1⟩ := hg1.shape
 have HG1 := Lib.hid hr1
 have hb01 := Lib.hid (hb0.out.trans (hb1.mono hb0.out.size))
 clear hb1 hb0 HR1 HR2 hg1
 go_wp2_with fail
 refine (read_any A1 [6, 2, 2, 2, 4, 100] 6 c1 rfl w1 HG1.out hc1 (by simp) hm1).mono ?_
 rintro e w2 ⟨V, rfl, hV, hb2⟩
 rw [hF3.out]
 rw [hF4.out] at hV
 obtain ⟨x, y, rfl, hx, hy, _⟩ := hV
 obtain ⟨Ax, cx, rfl, _⟩ := is_shape hx
 obtain ⟨Ay, cy, rfl, _⟩ := bs_shape hy
 generalize oT [6, 2, 2, 2, 4, 100] = T2
 generalize (oZ [6, 2, 2, 2, 4, 100]).length = nz
 generalize (oD [6, 2, 2, 2, 4, 100]).length = nd
 have hs12 : w1.heap.size ≤ w2.heap.size := hb2.size
 have hb02 := Lib.hid (hb01.out.trans (hb2.mono hb01.out.size))
 replace HG1 := Lib.hid ((HG1.out.below hb2).more hs12)
 clear hx hy hb2 hb01 hs12
 have hmk := fun W : World => run_make_one (P := Tryz.prog) Tryz.underlying27 info_u8 500 500 500 500 rfl rfl (Nat.le_refl _) (by decide) (by decide) W
 have hmk2 : (w2.alloc (.cells #[.int .i64 3, .int .i64 T2, .slice Ax nz cx, .slice Ay nd cy] 29)).heap.size = w2.heap.size + 1 := by simp
 have hb03 := Lib.hid ((hb02.out.alloc hb02.out.size (.cells #[.int .i64 3, .int .i64 T2, .slice Ax nz cx, .slice Ay nd cy] 29)).alloc (by rw [hmk2]; have := hb02.out.size; omega) (.cells (madeCells #[.int .u8 0] 500) 5))
 have hK := (Blk.new w2 29 #[.int .i64 3, .int .i64 T2, .slice Ax nz cx, .slice Ay nd cy]).alloc (.cells (madeCells #[.int .u8 0] 500) 5)
 have hZ : Blk ((w2.alloc (.cells #[.int .i64 3, .int .i64 T2, .slice Ax nz cx, .slice Ay nd cy] 29)).alloc (.cells (madeCells #[.int .u8 0] 500) 5)) (w2.heap.size + 1) 5 (cells (List.replicate 500 0)).toArray := by
  have h := Blk.new (w2.alloc (.cells #[.int .i64 3, .int .i64 T2, .slice Ax nz cx, .slice Ay nd cy] 29)) 5 (madeCells #[.int .u8 0] 500)
  rw [hmk2] at h
  have e : madeCells #[Value.int .u8 0] 500 = (cells (List.replicate 500 0)).toArray := by
   apply Array.toList_inj.1
   rw [toList_madeCells_one]
   simp [cells]
  rw [e] at h ⊢
  exact h
 have hK := Lib.hid hK
 have hZ := Lib.hid hZ
 clear hmk2
 go_wp2_with fail
 have hs3 : ((w2.alloc (.cells #[.int .i64 3, .int .i64 T2, .slice Ax nz cx, .slice Ay nd cy] 29)).alloc (.cells (madeCells #[.int .u8 0] 500) 5)).heap.size = w2.heap.size + 2 := by simp
 have hB23 : Below w2.heap.size w2 ((w2.alloc (.cells #[.int .i64 3, .int .i64 T2, .slice Ax nz cx, .slice Ay nd cy] 29)).alloc (.cells (madeCells #[.int .u8 0] 500) 5)) := ((Below.refl _ w2).alloc (Nat.le_refl _) _).alloc (by simp) _
 generalize hW3 : (w2.alloc (.cells #[.int .i64 3, .int .i64 T2, .slice Ax nz cx, .slice Ay nd cy] 29)).alloc (.cells (madeCells #[.int .u8 0] 500) 5) = W3 at hK hZ hb03 hs3 hB23 ⊢
 clear hW3 hmk
 have hR3 : Rd W3 W3.heap.size (some ⟨w2.heap.size + 1, 0, none⟩) (cells (List.replicate 500 0)) := fun _ => ⟨_, rfl, by rw [hs3]; show w2.heap.size + 1 < _; omega, fun j u hj => blk_add hZ.out j u hj⟩
 have hE5 : snapE 0 0 [] (List.replicate 500 0) = 0 := hF5.out
 refine (pieces_any 0 0 none (some ⟨w2.heap.size + 1, 0, none⟩) [] (List.replicate 500 0) 0 0 500 500 rfl (by simp) W3 Rd.none_ hR3 (by simp) (by simp) (by simp)).mono ?_
 rintro e w4 ⟨v4, xs, rfl, hp4, hb4⟩
 rw [hE5]
 obtain ⟨A4, c4, rfl, _⟩ := hp4.shape
 have hl4 : xs.length = 2 := hp4.len.trans hF6.out
 rw [hl4]
 have k0 : w4.cell? ⟨w2.heap.size, 0, none⟩ = some (.int .i64 3) := (hb4.cell (p := ⟨w2.heap.size, 0, none⟩) (by show w2.heap.size < _; omega)).trans (hK.out.cell 0)
 have q1 : (convert 27 9 (.slice A1 6 c1)).run Tryz.prog w4 = .ok (.string { data := #[6, 2, 2, 2, 4, 100] }) w4 := str_of c1 (((HG1.out.below hB23).below (hb4.mono hB23.size)))
 have hb04 := Lib.hid (hb03.out.trans (hb4.mono hb03.out.size))
 clear hp4 hb4 hb03 hK hZ HG1 hE5 hR3 hB23
 go_wp2
 go_ret
 exact ⟨rfl, hb04.out⟩
end Go.Proofs.YteehkcpokgeipaaGreatDoor
