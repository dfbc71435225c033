/- Two snapshots that are one (pavaneref23.Same). Condition: their slices can be read and hold the same. -/
import Derived.Test.YteehkcpokgeipaaGreatDoorKeepRead
import Derived.Test.YteehkcpokgeipaaGreatDoorTot
import Derived.Test.YteehkcpokgeipaaGreatDoorOwned
set_option linter.unusedVariables false
namespace Go.Proofs.YteehkcpokgeipaaGreatDoor
open Go.RowKit Oct

set_option maxHeartbeats 1000000 in
set_option maxRecDepth 100000 in
theorem snapSame_any (i t : Int) (z : List Int) (l : List UInt8) (Av Ad Bv Bd : Option Addr) (nv cv nd cd mv ev md ed K : Nat) (hnv : nv = z.length) (hnd : nd = l.length) (hmv : mv = z.length) (hmd : md = l.length) (w : World) (hK : K ≤ w.heap.size)
    (ha : Rd w K Av (z.map (Value.int .i64))) (ha2 : Rd w K Ad (cells l)) (hb : Rd w K Bv (z.map (Value.int .i64))) (hb2 : Rd w K Bd (cells l)) (hz : z.length ≤ 4611686018427387904) :
    Calls Tryz.prog 35 #[snapV i t Av nv cv Ad nd cd, snapV i t Bv mv ev Bd md ed] w fun e w' => e = .returned (.bool true) ∧ Below w.heap.size w w' := by
  subst hnv; subst hnd
  rw [hmv, hmd]
  unfold snapV
  have hb0 := Lib.hid (((Below.refl w.heap.size w).alloc (Nat.le_refl _) (Obj.cells #[.int .i64 i, .int .i64 t, .slice Av z.length cv, .slice Ad l.length cd] 29)).alloc (by simp) (Obj.cells #[.int .i64 i, .int .i64 t, .slice Bv z.length ev, .slice Bd l.length ed] 29))
  have hS1 := Lib.hid ((snapAt_new w i t (.slice Av z.length cv) (.slice Ad l.length cd)).below ((Below.refl _ _).alloc (Nat.le_refl _) (Obj.cells #[.int .i64 i, .int .i64 t, .slice Bv z.length ev, .slice Bd l.length ed] 29)) (by simp))
  have hS2 := snapAt_new (w.alloc (Obj.cells #[.int .i64 i, .int .i64 t, .slice Av z.length cv, .slice Ad l.length cd] 29)) i t (.slice Bv z.length ev) (.slice Bd l.length ed)
  rw [show (w.alloc (Obj.cells #[.int .i64 i, .int .i64 t, .slice Av z.length cv, .slice Ad l.length cd] 29)).heap.size = w.heap.size + 1 by simp] at hS2
  have HS2 := Lib.hid hS2
  have hsz : ((w.alloc (Obj.cells #[.int .i64 i, .int .i64 t, .slice Av z.length cv, .slice Ad l.length cd] 29)).alloc (Obj.cells #[.int .i64 i, .int .i64 t, .slice Bv z.length ev, .slice Bd l.length ed] 29)).heap.size = w.heap.size + 1 + 1 := by simp
  have HZ := Lib.hid hsz
  clear hS2 hsz
  go_enter Tryz.func35, Tryz.ntmps35
  go_wp2_with fail
  refine (same_any Av Bv z z cv ev w.heap.size _ ((ha.more hK).below hb0.out) ((hb.more hK).below hb0.out) hz hz).mono ?_
  rintro e w1 ⟨rfl, hb1⟩
  rw [HZ.out] at hb1
  have hA := Lib.hid (hS1.out.below hb1 (by omega))
  have hB := Lib.hid (HS2.out.below hb1 (by omega))
  have hb01 := Lib.hid (hb0.out.trans (hb1.mono (by omega)))
  rw [show decide (z = z) = true from decide_eq_true rfl]
  have k1 := str_of cd ((ha2.more hK).below hb01.out)
  have k2 := str_of ed ((hb2.more hK).below hb01.out)
  obtain ⟨a0, a1, a2, a3⟩ := hA.out
  obtain ⟨c0, c1, c2, c3⟩ := hB.out
  clear hb1 hb0 hS1 HS2 HZ ha ha2 hb hb2
  go_wp2_with fail
  go_ret
  exact ⟨rfl, hb01.out⟩
end Go.Proofs.YteehkcpokgeipaaGreatDoor

/- A snapshot in other memory (pavanelaw23.lent). Condition: its slices can be read. -/
set_option linter.unusedVariables false
namespace Go.Proofs.YteehkcpokgeipaaGreatDoor
open Go.RowKit Oct

set_option maxRecDepth 100000 in
theorem results_snap1 {fn : Func} (h : fn.results = #[.cell 2 29]) (tmps : Array Value) (W : World) (g : Nat) (a b c d : Value) (hp : tmps[2]?.getD undef = .pointer (some ⟨g, 0, none⟩)) (hB : Blk W g 29 #[a, b, c, d]) :
    (results fn tmps).run Tryz.prog W = .ok (.agg #[a, b, c, d]) W := by
  obtain ⟨e0, e1, e2, e3, f0, f1, f2, f3⟩ := blk4_cells hB
  simp [results, h, go_sem, hp, e0, e1, e2, e3]

set_option maxHeartbeats 2000000 in
set_option maxRecDepth 100000 in
theorem snapLent_any (i t : Int) (z : List Int) (l : List UInt8) (Av Ad : Option Addr) (nv cv nd cd : Nat) (hnv : nv = z.length) (hnd : nd = l.length) (w : World)
    (ha : Rd w w.heap.size Av (z.map (Value.int .i64))) (ha2 : Rd w w.heap.size Ad (cells l)) (hz : z.length ≤ 1000000) (hl : l.length ≤ 140737488351232) :
    Calls Tryz.prog 30 #[snapV i t Av nv cv Ad nd cd] w fun e w' => ∃ x g, e = .returned (.agg #[.int .i64 i, .int .i64 t, x, .slice (some ⟨g, 0, none⟩) l.length (l.length + 1)]) ∧ Is w' w.heap.size x z ∧ LentAt w' g l ∧ w.heap.size ≤ g ∧ x.ownBlock ≠ some g ∧ Below w.heap.size w w' := by
  subst hnv; subst hnd
  unfold snapV
  have hb0 := Lib.hid (((Below.refl w.heap.size w).alloc (Nat.le_refl _) (Obj.cells #[.int .i64 i, .int .i64 t, .slice Av z.length cv, .slice Ad l.length cd] 29)).alloc (by simp) (Obj.cells #[.int .i64 0, .int .i64 0, .slice none 0 0, .slice none 0 0] 29))
  have K0 := Lib.hid ((Blk.new w 29 #[.int .i64 i, .int .i64 t, .slice Av z.length cv, .slice Ad l.length cd]).alloc (Obj.cells #[.int .i64 0, .int .i64 0, .slice none 0 0, .slice none 0 0] 29))
  have hK1 := Blk.new (w.alloc (Obj.cells #[.int .i64 i, .int .i64 t, .slice Av z.length cv, .slice Ad l.length cd] 29)) 29 #[.int .i64 0, .int .i64 0, .slice none 0 0, .slice none 0 0]
  rw [show (w.alloc (Obj.cells #[.int .i64 i, .int .i64 t, .slice Av z.length cv, .slice Ad l.length cd] 29)).heap.size = w.heap.size + 1 by simp] at hK1
  have K1 := Lib.hid hK1
  have hsz : ((w.alloc (Obj.cells #[.int .i64 i, .int .i64 t, .slice Av z.length cv, .slice Ad l.length cd] 29)).alloc (Obj.cells #[.int .i64 0, .int .i64 0, .slice none 0 0, .slice none 0 0] 29)).heap.size = w.heap.size + 2 := by simp
  have HZ := Lib.hid hsz
  clear hK1 hsz
  go_enter Tryz.func30, Tryz.ntmps30
  go_upto_region 1 with fail
  generalize hW0 : (w.alloc (Obj.cells #[.int .i64 i, .int .i64 t, .slice Av z.length cv, .slice Ad l.length cd] 29)).alloc (Obj.cells #[.int .i64 0, .int .i64 0, .slice none 0 0, .slice none 0 0] 29) = W0 at hb0 K0 K1 HZ ⊢
  clear hW0
  obtain ⟨e0, e1, e2, e3, f0, f1, f2, f3⟩ := blk4_cells (K0.out.alloc (.cells #[] 3))
  have hN0 : Own (W0.alloc (.cells #[] 3)) (w.heap.size + 2) 3 (.slice (some ⟨W0.heap.size, 0, none⟩) 0 0) [] := own_nothing W0 (w.heap.size + 2) 3 (by rw [HZ.out]; exact Nat.le_refl _)
  go_wp2_with (at_builtin; refine wpList_append_any rfl (.tmp 3) (.tmp 5) 26 rfl (w.heap.size + 2) 3 (.int .i64 0) 8 Tryz.underlying26 info_int rfl _ _ rfl hN0 w.heap.size Av _ _ (z.map (Value.int .i64)) rfl (by simp) ((ha.below hb0.out).alloc (by rw [HZ.out]; omega) _) (by intro u hu; obtain ⟨n, _, rfl⟩ := List.mem_map.1 hu; rfl) (by unfold maxLen; simp; omega) (by simp; omega) (by simp; rw [HZ.out]; omega) ?_)
  intro x w1 hox hg1 hf1
  have hb1 : Below (w.heap.size + 2) W0 w1 := ((Below.refl _ W0).alloc (by rw [HZ.out]; exact Nat.le_refl _) _).grown hg1 (by simp; rw [HZ.out]; omega) (fun k hk => (hN0.lt k hk).1)
  have HX := Lib.hid (show Is w1 (w.heap.size + 2) x z from hox)
  have hs1 : w.heap.size + 2 ≤ w1.heap.size := by have := hb1.size; rw [HZ.out] at this; exact this
  replace K0 := Lib.hid (K0.out.below hb1 (by omega))
  replace K1 := Lib.hid (K1.out.below hb1 (by omega))
  have hb01 := Lib.hid (hb0.out.trans (hb1.mono (by omega)))
  clear hox hg1 hf1 hb1 hb0 HZ hN0 e0 e1 e2 e3 f0 f1 f2 f3
  obtain ⟨Ax, cx, rfl, hcx, hmx, _⟩ := is_shape HX.out
  obtain ⟨e0, e1, e2, e3, f0, f1, f2, f3⟩ := blk4_cells K0.out
  go_upto_region 2 with fail
  clear e0 e1 e2 e3 f0 f1 f2 f3
  have K0' := Lib.hid (show Blk (w1.setCell ⟨w.heap.size, 2, none⟩ (.slice Ax z.length cx)) w.heap.size 29 #[.int .i64 i, .int .i64 t, .slice Ax z.length cx, .slice Ad l.length cd] from Blk.set_ K0.out 2 (.slice Ax z.length cx))
  have K1' := Lib.hid (Blk.far (p := ⟨w.heap.size, 2, none⟩) K1.out (by show w.heap.size + 1 ≠ w.heap.size; omega) (.slice Ax z.length cx))
  have hb02 := Lib.hid (hb01.out.setCell (p := ⟨w.heap.size, 2, none⟩) (Nat.le_refl _) (.slice Ax z.length cx))
  have HX2 := Lib.hid (show Is (w1.setCell ⟨w.heap.size, 2, none⟩ (.slice Ax z.length cx)) (w.heap.size + 2) _ z from Own.far HX.out (grown_setCell w1 w.heap.size 2 (.slice Ax z.length cx)) (by omega))
  have hs2 : w.heap.size + 2 ≤ (w1.setCell ⟨w.heap.size, 2, none⟩ (.slice Ax z.length cx)).heap.size := by simp; omega
  generalize hW2 : w1.setCell ⟨w.heap.size, 2, none⟩ (.slice Ax z.length cx) = W2 at K0' K1' hb02 HX2 hs2 ⊢
  clear hW2 K0 K1 hb01 HX hs1
  obtain ⟨e0, e1, e2, e3, f0, f1, f2, f3⟩ := blk4_cells K0'.out
  go_wp2_with fail
  refine (lent_any Ad l cd W2 ((ha2.below hb02.out).more hb02.out.size) hl).mono ?_
  rintro e w3 ⟨rfl, hlent, hb3⟩
  have hs3 : w.heap.size + 2 ≤ w3.heap.size := Nat.le_trans hs2 hb3.size
  have K0 := Lib.hid (K0'.out.below hb3 (by omega))
  have K1 := Lib.hid (K1'.out.below hb3 (by omega))
  have hb03 := Lib.hid (hb02.out.trans (hb3.mono hb02.out.size))
  have HX3 := Lib.hid (Own.below HX2.out hb3 (Nat.le_refl _))
  have HG : Hid (w.heap.size + 2 ≤ W2.heap.size ∧ (Value.slice Ax z.length cx).ownBlock ≠ some W2.heap.size) := Lib.hid ⟨hs2, fun h => by have := (HX2.out.lt _ h).2; omega⟩
  obtain ⟨G, hG⟩ : ∃ G, G = W2.heap.size := ⟨_, rfl⟩
  rw [← hG] at hlent HG ⊢
  have HL := Lib.hid hlent
  clear hG hlent hb3 hb02 K0' K1' HX2 hs2 e0 e1 e2 e3 f0 f1 f2 f3
  obtain ⟨e0, e1, e2, e3, f0, f1, f2, f3⟩ := blk4_cells K0.out
  go_upto_region 3 with fail
  clear e0 e1 e2 e3 f0 f1 f2 f3
  have K0' := Lib.hid (show Blk (w3.setCell ⟨w.heap.size, 3, none⟩ (.slice (some ⟨G, 0, none⟩) l.length (l.length + 1))) w.heap.size 29 #[.int .i64 i, .int .i64 t, .slice Ax z.length cx, .slice (some ⟨G, 0, none⟩) l.length (l.length + 1)] from Blk.set_ K0.out 3 (.slice (some ⟨G, 0, none⟩) l.length (l.length + 1)))
  have K1' := Lib.hid (Blk.far (p := ⟨w.heap.size, 3, none⟩) K1.out (by show w.heap.size + 1 ≠ w.heap.size; omega) (.slice (some ⟨G, 0, none⟩) l.length (l.length + 1)))
  have hb04 := Lib.hid (hb03.out.setCell (p := ⟨w.heap.size, 3, none⟩) (Nat.le_refl _) (.slice (some ⟨G, 0, none⟩) l.length (l.length + 1)))
  have HX4 := Lib.hid (show Is (w3.setCell ⟨w.heap.size, 3, none⟩ (.slice (some ⟨G, 0, none⟩) l.length (l.length + 1))) (w.heap.size + 2) _ z from Own.far HX3.out (grown_setCell w3 w.heap.size 3 _) (by omega))
  have HL4 := Lib.hid (show LentAt (w3.setCell ⟨w.heap.size, 3, none⟩ (.slice (some ⟨G, 0, none⟩) l.length (l.length + 1))) G l from Blk.far (p := ⟨w.heap.size, 3, none⟩) HL.out (by show G ≠ w.heap.size; have := HG.out.1; omega) _)
  generalize hW4 : w3.setCell ⟨w.heap.size, 3, none⟩ (.slice (some ⟨G, 0, none⟩) l.length (l.length + 1)) = W4 at K0' K1' hb04 HX4 HL4 ⊢
  clear hW4 K0 K1 hb03 HX3 HL hs3
  obtain ⟨d0, d1, d2, d3, _, _, _, _⟩ := blk4_cells K0'.out
  obtain ⟨e0, e1, e2, e3, f0, f1, f2, f3⟩ := blk4_cells K1'.out
  have KF := (((Blk.set_ K1'.out 0 (.int .i64 i)).set_ 1 (.int .i64 t)).set_ 2 (.slice Ax z.length cx)).set_ 3 (.slice (some ⟨G, 0, none⟩) l.length (l.length + 1))
  have hbF := Lib.hid ((((hb04.out.setCell (p := ⟨w.heap.size + 1, 0, none⟩) (by show w.heap.size ≤ w.heap.size + 1; omega) (.int .i64 i)).setCell (p := ⟨w.heap.size + 1, 1, none⟩) (by show w.heap.size ≤ w.heap.size + 1; omega) (.int .i64 t)).setCell (p := ⟨w.heap.size + 1, 2, none⟩) (by show w.heap.size ≤ w.heap.size + 1; omega) (.slice Ax z.length cx)).setCell (p := ⟨w.heap.size + 1, 3, none⟩) (by show w.heap.size ≤ w.heap.size + 1; omega) (.slice (some ⟨G, 0, none⟩) l.length (l.length + 1)))
  have HXF := Lib.hid (Own.mono (base' := w.heap.size) ((((Own.far HX4.out (grown_setCell W4 (w.heap.size + 1) 0 (.int .i64 i)) (by omega)).far (grown_setCell _ (w.heap.size + 1) 1 (.int .i64 t)) (by omega)).far (grown_setCell _ (w.heap.size + 1) 2 (.slice Ax z.length cx)) (by omega)).far (grown_setCell _ (w.heap.size + 1) 3 (.slice (some ⟨G, 0, none⟩) l.length (l.length + 1))) (by omega)) (by omega))
  have hne : G ≠ w.heap.size + 1 := by have := HG.out.1; omega
  have HLF := Lib.hid (Blk.far (p := ⟨w.heap.size + 1, 3, none⟩) (Blk.far (p := ⟨w.heap.size + 1, 2, none⟩) (Blk.far (p := ⟨w.heap.size + 1, 1, none⟩) (Blk.far (p := ⟨w.heap.size + 1, 0, none⟩) HL4.out hne (.int .i64 i)) hne (.int .i64 t)) hne (.slice Ax z.length cx)) hne (.slice (some ⟨G, 0, none⟩) l.length (l.length + 1)))
  replace KF := Lib.hid KF
  clear K0' K1' HX4 HL4 hb04
  go_wp2_with fail
  refine bodyPost_ret (results_snap1 (fn := Tryz.f30) rfl _ _ (w.heap.size + 1) _ _ _ _ rfl KF.out) rfl ?_
  exact ⟨_, G, rfl, HXF.out, HLF.out, by have := HG.out.1; omega, HG.out.2, hbF.out⟩
end Go.Proofs.YteehkcpokgeipaaGreatDoor

/- A snapshot's owner writes over it (pavanelaw23.over). Condition: its slices lie in blocks of their own. -/
set_option linter.unusedVariables false
namespace Go.Proofs.YteehkcpokgeipaaGreatDoor
open Go.RowKit Oct

/-- But for two slices' blocks nothing that was there has turned. -/
structure But (x y : Value) (w w' : World) : Prop where
  os : w'.os = w.os
  tape : w'.tape = w.tape
  output : w'.output = w.output
  size : w.heap.size ≤ w'.heap.size
  block : ∀ k, k < w.heap.size → x.ownBlock ≠ some k → y.ownBlock ≠ some k → w'.heap[k]? = w.heap[k]?
theorem But.below {x y : Value} {w w' : World} (h : But x y w w') {base : Nat} (hB : base ≤ w.heap.size) (h1 : ∀ k, x.ownBlock = some k → base ≤ k) (h2 : ∀ k, y.ownBlock = some k → base ≤ k) : Below base w w' :=
  ⟨h.os, h.tape, h.output, h.size, fun k hk => h.block k (by omega) (fun e => by have := h1 k e; omega) (fun e => by have := h2 k e; omega)⟩
theorem But.set {x y : Value} {w w' : World} (h : But x y w w') {g : Nat} (hg : x.ownBlock = some g) (q : Nat) (u : Value) : But x y w (w'.setCell ⟨g, q, none⟩ u) :=
  ⟨h.os, h.tape, h.output, by simp [World.setCell, h.size], fun k hk h1 h2 => (Below.heap_setCell _ _ _ _ (by rintro rfl; exact h1 hg)).trans (h.block k hk h1 h2)⟩
theorem IBlk.keep0 {w w' : World} {A : Option Addr} {cap : Nat} {cur : List Value} (h : IBlk w A cap cur) (hk : ∀ g, A = some ⟨g, 0, none⟩ → 0 < cap → w'.heap[g]? = w.heap[g]?) : IBlk w' A cap cur := by
  refine ⟨h.1, fun h0 => ?_⟩
  obtain ⟨g', rfl, hb⟩ := h.2 h0
  exact ⟨g', rfl, (hk g' rfl h0).trans hb⟩

set_option maxHeartbeats 2000000 in
set_option maxRecDepth 100000 in
theorem over_any (i t : Int) (Ax : Option Addr) (n cx : Nat) (cur : List Value) (Ay : Option Addr) (m cy : Nat) (w : World) (base : Nat) (hx : IBlk w Ax cx cur) (hn : n ≤ cx) (hcx : cx ≤ 9223372036854775807) (hy : RowOk w base (.slice Ay m cy))
    (hne : ∀ k, (Value.slice Ax n cx).ownBlock = some k → (Value.slice Ay m cy).ownBlock ≠ some k) :
    Calls Tryz.prog 36 #[.agg #[.int .i64 i, .int .i64 t, .slice Ax n cx, .slice Ay m cy]] w fun e w' => e = .returned (.tuple #[]) ∧ But (.slice Ax n cx) (.slice Ay m cy) w w' := by
  have hlt := Lib.hid hy.lt
  have hxl : Hid (∀ g, Ax = some ⟨g, 0, none⟩ → 0 < cx → g < w.heap.size) := Lib.hid fun g h h0 => by
    obtain ⟨g', h', hb⟩ := hx.2 h0
    rw [h] at h'
    injection h' with h'
    injection h' with h'
    rw [h']; exact hb.lt
  have K0 := Lib.hid ((Blk.new w 29 #[.int .i64 i, .int .i64 t, .slice Ax n cx, .slice Ay m cy]).alloc (.cells #[.slice Ay m cy] 27))
  have hsz : (w.alloc (.cells #[.int .i64 i, .int .i64 t, .slice Ax n cx, .slice Ay m cy] 29)).heap.size = w.heap.size + 1 := by simp
  have hrd := rd_lit (w.alloc (.cells #[.int .i64 i, .int .i64 t, .slice Ax n cx, .slice Ay m cy] 29)) 27 [.slice Ay m cy]
  rw [hsz] at hrd
  have hok : RowOk ((w.alloc (.cells #[.int .i64 i, .int .i64 t, .slice Ax n cx, .slice Ay m cy] 29)).alloc (.cells #[.slice Ay m cy] 27)) base (.slice Ay m cy) := (hy.alloc _).alloc _
  have hown := Lib.hid (owned_any (some ⟨w.heap.size + 1, 0, none⟩) [.slice Ay m cy] 1 1 (w.heap.size + 2) base rfl _ hrd (by intro v hv; obtain rfl := List.mem_singleton.1 hv; exact hok)
    (fun a b ha hb hab => absurd (by have h1 : a < 1 := ha; have h2 : b < 1 := hb; omega) hab) (by rintro ad had v hv; obtain rfl := List.mem_singleton.1 hv; injection had with had; subst had; intro h; have h2 : w.heap.size + 1 < w.heap.size := hlt.out _ h; omega) (by simp))
  have hX0 := Lib.hid ((hx.keep0 (w' := (w.alloc (.cells #[.int .i64 i, .int .i64 t, .slice Ax n cx, .slice Ay m cy] 29)).alloc (.cells #[.slice Ay m cy] 27)) (fun g hg h0 => by have := hxl.out g hg h0; exact (Below.heap_alloc _ _ _ (by rw [hsz]; omega)).trans (Below.heap_alloc _ _ _ this))))
  have hb0 := Lib.hid (((Below.refl w.heap.size w).alloc (Nat.le_refl _) (.cells #[.int .i64 i, .int .i64 t, .slice Ax n cx, .slice Ay m cy] 29)).alloc (by rw [hsz]; omega) (.cells #[.slice Ay m cy] 27))
  clear hrd hok hsz
  go_enter Tryz.func36, Tryz.ntmps36
  go_wp2_with fail
  refine hown.out.mono ?_
  rintro e w1 ⟨rfl, ho, _⟩
  have hK1 : Blk w1 w.heap.size 29 #[.int .i64 i, .int .i64 t, .slice Ax n cx, .slice Ay m cy] := (ho.block _ (by intro v hv h; obtain rfl := List.mem_singleton.1 hv; have := hlt.out _ h; omega)).trans K0.out
  have hX1 : IBlk w1 Ax cx cur := hX0.out.keep0 fun g hg h0 => ho.block g (by intro v hv h; obtain rfl := List.mem_singleton.1 hv; exact hne g (by rw [hg]; rfl) h)
  have hB1 : But (.slice Ax n cx) (.slice Ay m cy) w w1 := ⟨ho.os.trans hb0.out.os, ho.tape.trans hb0.out.tape, ho.output.trans hb0.out.output, by rw [ho.size]; exact hb0.out.size, fun k hk h1 h2 => (ho.block k (by intro v hv; obtain rfl := List.mem_singleton.1 hv; exact h2)).trans (hb0.out.block k hk)⟩
  have hl1 := Lib.hid hx.1
  clear ho hown K0 hX0 hb0 hx hy hne
  go_wp2_with fail
  go_loopw [2] (fun i' wr => ∃ q : Nat, q ≤ n ∧ i' = .int .i64 q ∧ IBlk wr Ax cx (List.replicate q (.int .i64 (-7)) ++ cur.drop q) ∧ Hid (Blk wr w.heap.size 29 #[.int .i64 i, .int .i64 t, .slice Ax n cx, .slice Ay m cy]) ∧ But (.slice Ax n cx) (.slice Ay m cy) w wr) (fun i' _ => n - (intOf i').toNat)
  case atStart => exact ⟨0, by omega, rfl, by simpa using hX1, Lib.hid hK1, hB1⟩
  case round =>
    clear hX1 hK1 hB1
    obtain ⟨q, hq, rfl, hi1, hK, hB⟩ := hrel
    have c2 : wr.cell? ⟨w.heap.size, 2, none⟩ = some (.slice Ax n cx) := hK.out.cell 2
    by_cases hlq : q < n
    · obtain ⟨g, rfl, hblk⟩ := hi1.2 (by omega)
      have hcq : ∃ u, wr.cell? ⟨g, q, none⟩ = some u := by
        rw [hblk.cell]
        exact ⟨_, Array.getElem?_eq_getElem (by have := hl1.out; simp; omega)⟩
      obtain ⟨u, hcq⟩ := hcq
      have hfq := hblk.frozen q
      have hg := hxl.out g rfl (by omega)
      have r1 := IBlk.set hblk hl1.out (by omega : q < cx)
      have r2 := Lib.hid (hK.out.far (p := ⟨g, q, none⟩) (by show w.heap.size ≠ g; omega) (.int .i64 (-7)))
      have r3 := hB.set (g := g) rfl q (.int .i64 (-7))
      have hqI : (q : Int) < n := by omega
      clear hi1 hB hblk hK
      go_wp2
      go_roundw
      case rel => exact ⟨q + 1, by omega, by go_num, r1, r2, r3⟩
      case measure => simp [intOf]; omega
    · obtain rfl : q = n := by omega
      go_wp2_with fail
      go_end0
      exact ⟨rfl, hB⟩
end Go.Proofs.YteehkcpokgeipaaGreatDoor

/- A lent snapshot stands as it did; its owner writes over it (pavanelaw23.kept). Condition: it is a copy. -/
set_option linter.unusedVariables false
namespace Go.Proofs.YteehkcpokgeipaaGreatDoor
open Go.RowKit Oct

theorem But.after {x y : Value} {w w1 w2 : World} (hb : Below w.heap.size w w1) (h : But x y w1 w2) : But x y w w2 :=
  ⟨h.os.trans hb.os, h.tape.trans hb.tape, h.output.trans hb.output, Nat.le_trans hb.size h.size, fun k hk h1 h2 => (h.block k (by have := hb.size; omega) h1 h2).trans (hb.block k hk)⟩

set_option maxHeartbeats 2000000 in
set_option maxRecDepth 100000 in
theorem snapKept_any (i t : Int) (z : List Int) (l : List UInt8) (Ax : Option Addr) (nx cx g : Nat) (Bv Bd : Option Addr) (mv ev md ed : Nat) (hnx : nx = z.length) (hmv : mv = z.length) (hmd : md = l.length) (w : World) (base : Nat)
    (hx : Is w base (.slice Ax nx cx) z) (hg : LentAt w g l) (hgb : base ≤ g) (hne : (Value.slice Ax nx cx).ownBlock ≠ some g)
    (hb : Rd w w.heap.size Bv (z.map (Value.int .i64))) (hb2 : Rd w w.heap.size Bd (cells l)) (hz : z.length ≤ 4611686018427387904) (hl : l.length ≤ 140737488351232) :
    Calls Tryz.prog 32 #[.agg #[.int .i64 i, .int .i64 t, .slice Ax nx cx, .slice (some ⟨g, 0, none⟩) l.length (l.length + 1)], snapV i t Bv mv ev Bd md ed] w fun e w' => e = .returned (.bool true) ∧ But (.slice Ax nx cx) (.slice (some ⟨g, 0, none⟩) l.length (l.length + 1)) w w' := by
  subst hnx; subst hmv; subst hmd
  unfold snapV
  have hgl := hg.lt
  have hb0 := Lib.hid (((Below.refl w.heap.size w).alloc (Nat.le_refl _) (Obj.cells #[.int .i64 i, .int .i64 t, .slice Ax z.length cx, .slice (some ⟨g, 0, none⟩) l.length (l.length + 1)] 29)).alloc (by simp) (Obj.cells #[.int .i64 i, .int .i64 t, .slice Bv z.length ev, .slice Bd l.length ed] 29))
  have hS1 := Lib.hid ((snapAt_new w i t (.slice Ax z.length cx) (.slice (some ⟨g, 0, none⟩) l.length (l.length + 1))).below ((Below.refl _ _).alloc (Nat.le_refl _) (Obj.cells #[.int .i64 i, .int .i64 t, .slice Bv z.length ev, .slice Bd l.length ed] 29)) (by simp))
  have hS2 := snapAt_new (w.alloc (Obj.cells #[.int .i64 i, .int .i64 t, .slice Ax z.length cx, .slice (some ⟨g, 0, none⟩) l.length (l.length + 1)] 29)) i t (.slice Bv z.length ev) (.slice Bd l.length ed)
  rw [show (w.alloc (Obj.cells #[.int .i64 i, .int .i64 t, .slice Ax z.length cx, .slice (some ⟨g, 0, none⟩) l.length (l.length + 1)] 29)).heap.size = w.heap.size + 1 by simp] at hS2
  have HS2 := Lib.hid hS2
  have hsz : ((w.alloc (Obj.cells #[.int .i64 i, .int .i64 t, .slice Ax z.length cx, .slice (some ⟨g, 0, none⟩) l.length (l.length + 1)] 29)).alloc (Obj.cells #[.int .i64 i, .int .i64 t, .slice Bv z.length ev, .slice Bd l.length ed] 29)).heap.size = w.heap.size + 1 + 1 := by simp
  have HZ := Lib.hid hsz
  have hxr : Rd w w.heap.size Ax (z.map (Value.int .i64)) := own_rd hx
  clear hS2 hsz
  go_enter Tryz.func32, Tryz.ntmps32
  go_wp2_with fail
  refine (same_any Ax Bv z z cx ev w.heap.size _ (hxr.below hb0.out) (hb.below hb0.out) hz hz).mono ?_
  rintro e w1 ⟨rfl, hb1⟩
  rw [HZ.out] at hb1
  have hA := Lib.hid (hS1.out.below hb1 (by omega))
  have hB := Lib.hid (HS2.out.below hb1 (by omega))
  have hb01 := Lib.hid (hb0.out.trans (hb1.mono (by omega)))
  rw [show decide (z = z) = true from decide_eq_true rfl]
  have HX := Lib.hid (Own.below hx hb01.out (Nat.le_refl _))
  have HG := Lib.hid (hg.below hb01.out hgl)
  obtain ⟨a0, a1, a2, a3⟩ := hA.out
  obtain ⟨c0, c1, c2, c3⟩ := hB.out
  clear hb1 hb0 hS1 HS2 HZ hx hg hxr
  go_wp2_with fail
  refine (kept_any g Bd l ed w.heap.size w1 HG.out (hb2.below hb01.out) hl).mono ?_
  rintro e w2 ⟨rfl, rfl⟩
  obtain ⟨A', cap, cur, hv, hcap, hi, hbs⟩ := IBlk.of_own HX.out
  injection hv with hv1 hv2 hv3
  subst hv1; subst hv3
  have hcx : z.length ≤ cx := by
    obtain ⟨A', c', h1, h2, _⟩ := Own.shape HX.out
    injection h1 with _ _ h3
    rw [List.length_map] at h2
    omega
  have hov := Lib.hid (over_any i t Ax z.length cx cur (some ⟨g, 0, none⟩) l.length (l.length + 1) w1 base hi hcx hcap (RowOk.of_lent HG.out hgb hl) (fun k h1 h2 => hne (by rw [h1]; exact h2.symm ▸ rfl)))
  clear hi hbs
  go_wp2_with fail
  refine hov.out.mono ?_
  rintro e w3 ⟨rfl, hbut⟩
  have HB := Lib.hid (But.after hb01.out hbut)
  clear hbut hov
  go_wp2_with fail
  go_ret
  exact ⟨rfl, HB.out⟩
end Go.Proofs.YteehkcpokgeipaaGreatDoor
