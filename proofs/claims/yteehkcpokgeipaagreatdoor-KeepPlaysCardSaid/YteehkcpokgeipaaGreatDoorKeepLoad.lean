/- keep.Load in plain words, and its walk. Condition: the disk is a call's own; its names and files are within bounds. -/
import Derived.Test.YteehkcpokgeipaaGreatDoorKeepOpen
import Derived.Test.YteehkcpokgeipaaGreatDoorKeepTwoR
import Derived.Test.YteehkcpokgeipaaGreatDoorKeepBwd
import Derived.Test.YteehkcpokgeipaaGreatDoorCalcFacts
set_option linter.unusedVariables false
set_option linter.unusedSimpArgs false
namespace Go.Proofs.YteehkcpokgeipaaGreatDoor
open Go.RowKit Go.Shelf Oct
attribute [local go_sem] Oper.semAt_some
def loadF (d : DkD) : List Int → Option (List UInt8)
 | [] => none
 | n :: r => if openB (d.read (sName n)).1 n = true then some (allS (d.read (sName n)).1) else loadF d r
def loadO (d : DkD) : Option (List UInt8) := if d.pw.off = true then none else loadF d (idxL (d.fs.map (·.1))).reverse
def loadE (d : DkD) : Int := if d.pw.off = true then 50 else 0
def sI : Option (List UInt8) → Int
 | none => 0
 | some a => oI a
def sT : Option (List UInt8) → Int
 | none => 0
 | some a => oT a
def sZ : Option (List UInt8) → List Int
 | none => []
 | some a => oZ a
def sD : Option (List UInt8) → List UInt8
 | none => []
 | some a => oD a
theorem loadF_bks {d : DkD} {L : List Int} : ∀ {k : Nat}, k ≤ L.length → (∀ x ∈ bks L.length k, openB (d.read (sName L[x.1])).1 L[x.1] = false) → loadF d L.reverse = loadF d (L.take (L.length - k)).reverse
 | 0, _, _ => by rw [Nat.sub_zero, List.take_length]
 | k + 1, hk, h => by
  rw [bks_succ (by omega)] at h
  rw [loadF_bks (k := k) (by omega) (fun x hx => h x (List.mem_append_left _ hx))]
  have e : L.length - k = (L.length - 1 - k) + 1 := by omega
  have hlt : L.length - 1 - k < L.length := by omega
  have h1 := h ⟨L.length - 1 - k, hlt⟩ (List.mem_append_right _ (List.mem_singleton.2 rfl))
  rw [e, List.take_succ_eq_append_getElem hlt, List.reverse_append, List.reverse_singleton, List.singleton_append]
  simp only at h1
  rw [loadF, if_neg (by rw [h1]; simp), show L.length - 1 - k = L.length - (k + 1) by omega]
theorem loadF_none {d : DkD} {L : List Int} (h : ∀ x ∈ bks L.length L.length, openB (d.read (sName L[x.1])).1 L[x.1] = false) : loadF d L.reverse = none := by
 rw [loadF_bks (Nat.le_refl _) h, Nat.sub_self]
 rfl
theorem loadF_some {d : DkD} {L : List Int} {pre : List (Fin L.length)} {x : Fin L.length} (hp : BkPart L.length (pre ++ [x])) (h : ∀ y ∈ pre, openB (d.read (sName L[y.1])).1 L[y.1] = false) (hx : openB (d.read (sName L[x.1])).1 L[x.1] = true) : loadF d L.reverse = some (allS (d.read (sName L[x.1])).1) := by
 obtain ⟨k, hk, e⟩ := hp
 rw [bks_succ hk] at e
 obtain ⟨e1, e2⟩ := List.append_inj' e rfl
 injection e2 with e2
 subst e1 e2
 rw [loadF_bks (k := k) (by omega) h]
 have e : L.length - k = (L.length - 1 - k) + 1 := by omega
 have hlt : L.length - 1 - k < L.length := by omega
 simp only at hx
 rw [e, List.take_succ_eq_append_getElem hlt, List.reverse_append, List.reverse_singleton, List.singleton_append, loadF, if_pos hx]
set_option maxRecDepth 100000 in
theorem results_load {fn : Func} (h : fn.results = #[.cell 2 29, .cell 3 4, .cell 4 30]) (tmps : Array Value) (W : World) (g1 g2 g3 : Nat) (a b c d u v : Value) (hp : tmps[2]?.getD undef = .pointer (some ⟨g1, 0, none⟩)) (hp2 : tmps[3]?.getD undef = .pointer (some ⟨g2, 0, none⟩)) (hp3 : tmps[4]?.getD undef = .pointer (some ⟨g3, 0, none⟩))
  (hB : Blk W g1 29 #[a, b, c, d]) (hB2 : Blk W g2 4 #[u]) (hB3 : Blk W g3 30 #[v]) :
  (results fn tmps).run Tryz.prog W = .ok (.tuple #[.agg #[a, b, c, d], u, v]) W := by
 obtain ⟨e0, e1, e2, e3, f0, f1, f2, f3⟩ := blk4_cells hB
 have k1 : W.cell? ⟨g2, 0, none⟩ = some u := hB2.cell 0
 have k2 : W.cell? ⟨g3, 0, none⟩ = some v := hB3.cell 0
 simp [results, h, go_sem, hp, hp2, hp3, e0, e1, e2, e3, k1, k2]
section
variable {w W W9 : World} {G : Nat}
theorem load_snap {a0 b0 c0 d0 : Value} (h : Blk W (G + 1) 29 #[a0, b0, c0, d0]) (a b c d u v : Value) (h9 : W9 = (((((W.setCell ⟨G + 1, 0, none⟩ a).setCell ⟨G + 1, 1, none⟩ b).setCell ⟨G + 1, 2, none⟩ c).setCell ⟨G + 1, 3, none⟩ d).setCell ⟨G + 1 + 1, 0, none⟩ u).setCell ⟨G + 1 + 1 + 1, 0, none⟩ v) : Blk W9 (G + 1) 29 #[a, b, c, d] := by
 rw [h9]
 exact (((((Blk.set_ h 0 a).set_ 1 b).set_ 2 c).set_ 3 d).far (by show G + 1 ≠ G + 1 + 1; omega) _).far (by show G + 1 ≠ G + 1 + 1 + 1; omega) _
theorem load_bool {u0 : Value} (h : Blk W (G + 1 + 1) 4 #[u0]) (a b c d u v : Value) (h9 : W9 = (((((W.setCell ⟨G + 1, 0, none⟩ a).setCell ⟨G + 1, 1, none⟩ b).setCell ⟨G + 1, 2, none⟩ c).setCell ⟨G + 1, 3, none⟩ d).setCell ⟨G + 1 + 1, 0, none⟩ u).setCell ⟨G + 1 + 1 + 1, 0, none⟩ v) : Blk W9 (G + 1 + 1) 4 #[u] := by
 rw [h9]
 exact (Blk.set_ (((((Blk.far h (by show G + 1 + 1 ≠ G + 1; omega) _).far (by show G + 1 + 1 ≠ G + 1; omega) _).far (by show G + 1 + 1 ≠ G + 1; omega) _).far (by show G + 1 + 1 ≠ G + 1; omega) _)) 0 u).far (by show G + 1 + 1 ≠ G + 1 + 1 + 1; omega) _
theorem load_err {v0 : Value} (h : Blk W (G + 1 + 1 + 1) 30 #[v0]) (a b c d u v : Value) (h9 : W9 = (((((W.setCell ⟨G + 1, 0, none⟩ a).setCell ⟨G + 1, 1, none⟩ b).setCell ⟨G + 1, 2, none⟩ c).setCell ⟨G + 1, 3, none⟩ d).setCell ⟨G + 1 + 1, 0, none⟩ u).setCell ⟨G + 1 + 1 + 1, 0, none⟩ v) : Blk W9 (G + 1 + 1 + 1) 30 #[v] := by
 rw [h9]
 exact Blk.set_ ((((((Blk.far h (by show G + 1 + 1 + 1 ≠ G + 1; omega) _).far (by show G + 1 + 1 + 1 ≠ G + 1; omega) _).far (by show G + 1 + 1 + 1 ≠ G + 1; omega) _).far (by show G + 1 + 1 + 1 ≠ G + 1; omega) _)).far (by show G + 1 + 1 + 1 ≠ G + 1 + 1; omega) _) 0 v
theorem load_below (h : Below G w W) (a b c d u v : Value) (h9 : W9 = (((((W.setCell ⟨G + 1, 0, none⟩ a).setCell ⟨G + 1, 1, none⟩ b).setCell ⟨G + 1, 2, none⟩ c).setCell ⟨G + 1, 3, none⟩ d).setCell ⟨G + 1 + 1, 0, none⟩ u).setCell ⟨G + 1 + 1 + 1, 0, none⟩ v) : Below G w W9 := by
 rw [h9]
 exact (((((h.setCell (p := ⟨G + 1, 0, none⟩) (by show G ≤ G + 1; omega) _).setCell (p := ⟨G + 1, 1, none⟩) (by show G ≤ G + 1; omega) _).setCell (p := ⟨G + 1, 2, none⟩) (by show G ≤ G + 1; omega) _).setCell (p := ⟨G + 1, 3, none⟩) (by show G ≤ G + 1; omega) _).setCell (p := ⟨G + 1 + 1, 0, none⟩) (by show G ≤ G + 1 + 1; omega) _).setCell (p := ⟨G + 1 + 1 + 1, 0, none⟩) (by show G ≤ G + 1 + 1 + 1; omega) _
theorem load_far {k : Nat} (h1 : k ≠ G + 1) (h2 : k ≠ G + 1 + 1) (h3 : k ≠ G + 1 + 1 + 1) (a b c d u v : Value) (h9 : W9 = (((((W.setCell ⟨G + 1, 0, none⟩ a).setCell ⟨G + 1, 1, none⟩ b).setCell ⟨G + 1, 2, none⟩ c).setCell ⟨G + 1, 3, none⟩ d).setCell ⟨G + 1 + 1, 0, none⟩ u).setCell ⟨G + 1 + 1 + 1, 0, none⟩ v) : W9.heap[k]? = W.heap[k]? := by
 rw [h9]
 exact (Below.heap_setCell _ _ _ _ h3).trans ((Below.heap_setCell _ _ _ _ h2).trans ((Below.heap_setCell _ _ _ _ h1).trans ((Below.heap_setCell _ _ _ _ h1).trans ((Below.heap_setCell _ _ _ _ h1).trans (Below.heap_setCell _ _ _ _ h1)))))
end
theorem blk_put {W : World} {g D : Nat} {t : TypeId} {cs : Array Value} {o : Obj} (h : Blk W g t cs) (hn : g ≠ D) : Blk (W.putObj D o) g t cs := (World.putObj_heap_other hn).trans h
theorem below_put {w W : World} {B D : Nat} {o o' : Obj} (h : Below B w W) (hD : W.heap[D]? = some o') (hB : B ≤ D) : Below B w (W.putObj D o) :=
 ⟨h.os, h.tape, h.output, by have := h.size; simpa [World.putObj] using this, fun k hk => (World.putObj_heap_other (by omega)).trans (h.block k hk)⟩
def LoadAt (w : World) (G base : Nat) (a : List UInt8) (W : World) : Prop := ∃ x y, Blk W (G + 1) 29 #[.int .i64 (oI a), .int .i64 (oT a), x, y] ∧ Blk W (G + 1 + 1) 4 #[.bool true] ∧ Blk W (G + 1 + 1 + 1) 30 #[.int .i64 0] ∧ Is W base x (oZ a) ∧ Bs W base y (oD a) ∧ (∀ k, x.ownBlock = some k → y.ownBlock ≠ some k) ∧ Below G w W
theorem LoadAt.grown_off {w W W' : World} {G base : Nat} {a : List UInt8} (h : LoadAt w G base a W) {row : Option Nat} (hg : W.grownBy W' row) (hr : ∀ r, row = some r → ∃ o : Obj, W.heap[r]? = some o ∧ o.isCells = false) (hr2 : ∀ r, row = some r → G ≤ r) : LoadAt w G base a W' := by
 obtain ⟨x, y, h1, h2, h3, h4, h5, h6, h7⟩ := h
 refine ⟨x, y, (grownBy_off hg hr h1).trans h1, (grownBy_off hg hr h2).trans h2, (grownBy_off hg hr h3).trans h3, own_keepB h4 (fun q hq => ?_), own_keepB h5 (fun q hq => ?_), h6, h7.grown hg (by have := h1.lt; omega) hr2⟩
 ·obtain ⟨cs, hc⟩ := ownsRow_held h4 hq
  exact grownBy_off hg hr hc
 ·obtain ⟨cs, hc⟩ := ownsRow_held h5 hq
  exact grownBy_off hg hr hc
set_option maxHeartbeats 8000000 in
set_option maxRecDepth 100000 in
theorem kload_any {w : World} {base g m : Nat} {p : PWD} {room : Int} {es : List (Nm × FE)} (h : DiskAt w base g m p room es) (hl : es.length ≤ 1000000000) (hn : ∀ q ∈ es, q.1 ≠ [] ∧ q.1.length ≤ 1000) (hfe : ∀ q ∈ es, q.2.f.b.length ≤ 40000000) (hF : Facts w) :
  Calls Tryz.prog 33 #[.pointer (some ⟨g, 0, none⟩)] w fun e w' => ∃ V, e = .returned (.tuple #[V, .bool (loadO (dkOf p room es)).isSome, .int .i64 (loadE (dkOf p room es))]) ∧ SnapR w' w.heap.size V (sI (loadO (dkOf p room es))) (sT (loadO (dkOf p room es))) (sZ (loadO (dkOf p room es))) (sD (loadO (dkOf p room es))) ∧ Below w.heap.size w w' := by
 obtain ⟨w0, hw0⟩ : ∃ w0, w0 = (((w.alloc (.cells #[.pointer (some ⟨g, 0, none⟩)] 24)).alloc (.cells #[.int .i64 0, .int .i64 0, .slice none 0 0, .slice none 0 0] 29)).alloc (.cells #[.bool false] 4)).alloc (.cells #[.int .i64 0] 30) := ⟨_, rfl⟩
 have hb0 : Below w.heap.size w w0 := by rw [hw0]; exact ((((Below.refl _ w).alloc (Nat.le_refl _) _).alloc (by simp) _).alloc (by simp; omega) _).alloc (by simp; omega) _
 have hz0 : w0.heap.size = w.heap.size + 4 := by rw [hw0]; simp
 have hP0 : Blk w0 w.heap.size 24 #[.pointer (some ⟨g, 0, none⟩)] := by rw [hw0]; exact (((Blk.new w 24 _).alloc _).alloc _).alloc _
 have hS0 : Blk w0 (w.heap.size + 1) 29 #[.int .i64 0, .int .i64 0, .slice none 0 0, .slice none 0 0] := by
  rw [hw0]
  have h := ((Blk.new (w.alloc (.cells #[.pointer (some ⟨g, 0, none⟩)] 24)) 29 #[.int .i64 0, .int .i64 0, .slice none 0 0, .slice none 0 0]).alloc (.cells #[.bool false] 4)).alloc (.cells #[.int .i64 0] 30)
  rwa [show (w.alloc (.cells #[.pointer (some ⟨g, 0, none⟩)] 24)).heap.size = w.heap.size + 1 by simp] at h
 have hB0 : Blk w0 (w.heap.size + 1 + 1) 4 #[.bool false] := by
  rw [hw0]
  have h := (Blk.new ((w.alloc (.cells #[.pointer (some ⟨g, 0, none⟩)] 24)).alloc (.cells #[.int .i64 0, .int .i64 0, .slice none 0 0, .slice none 0 0] 29)) 4 #[.bool false]).alloc (.cells #[.int .i64 0] 30)
  rwa [show ((w.alloc (.cells #[.pointer (some ⟨g, 0, none⟩)] 24)).alloc (.cells #[.int .i64 0, .int .i64 0, .slice none 0 0, .slice none 0 0] 29)).heap.size = w.heap.size + 1 + 1 by simp] at h
 have hE0 : Blk w0 (w.heap.size + 1 + 1 + 1) 30 #[.int .i64 0] := by
  rw [hw0]
  have h := Blk.new (((w.alloc (.cells #[.pointer (some ⟨g, 0, none⟩)] 24)).alloc (.cells #[.int .i64 0, .int .i64 0, .slice none 0 0, .slice none 0 0] 29)).alloc (.cells #[.bool false] 4)) 30 #[.int .i64 0]
  rwa [show (((w.alloc (.cells #[.pointer (some ⟨g, 0, none⟩)] 24)).alloc (.cells #[.int .i64 0, .int .i64 0, .slice none 0 0, .slice none 0 0] 29)).alloc (.cells #[.bool false] 4)).heap.size = w.heap.size + 1 + 1 + 1 by simp] at h
 have hD0 := h.below hb0
 have HUP := Lib.hid (dup_any hD0)
 have HD := Lib.hid h
 have HFE := Lib.hid hfe
 have HN := Lib.hid hn
 have HFA := Lib.hid hF
 have HW0 := Lib.hid hw0
 have HB0 := Lib.hid hb0
 have HZ0 := Lib.hid hz0
 have HBK := Lib.hid (And.intro hP0 (And.intro hS0 (And.intro hB0 hE0)))
 have c0 : w0.cell? ⟨w.heap.size, 0, none⟩ = some (.pointer (some ⟨g, 0, none⟩)) := hP0.cell 0
 obtain ⟨R, hR⟩ : ∃ R, R = loadO (dkOf p room es) := ⟨_, rfl⟩
 have HR := Lib.hid hR
 have HIX := Lib.hid (indexes_any hD0 (by omega) hn (hF.err.below hb0))
 obtain ⟨LE, hLE⟩ : ∃ LE, LE = loadE (dkOf p room es) := ⟨_, rfl⟩
 have HLE := Lib.hid hLE
 rw [← hR, ← hLE]
 clear hLE
 clear h hfe hn hF hw0 hb0 hz0 hP0 hS0 hB0 hE0 hD0 hR
 by_cases ho : p.off = true
 ·have hRn : R = none := by rw [HR.out]; unfold loadO; rw [if_pos ho]
  have hE : LE = 50 := by rw [HLE.out]; unfold loadE; rw [if_pos ho]
  subst hE
  subst hRn
  obtain ⟨d0, d1, d2, d3, f0, f1, f2, f3⟩ := blk4_cells HBK.out.2.1
  have b1 : w0.cell? ⟨w.heap.size + 1 + 1, 0, none⟩ = some (.bool false) := HBK.out.2.2.1.cell 0
  have b2 : w0.cell? ⟨w.heap.size + 1 + 1 + 1, 0, none⟩ = some (.int .i64 0) := HBK.out.2.2.2.cell 0
  have q1 : w0.frozen? ⟨w.heap.size + 1 + 1, 0, none⟩ = false := HBK.out.2.2.1.frozen 0
  have q2 : w0.frozen? ⟨w.heap.size + 1 + 1 + 1, 0, none⟩ = false := HBK.out.2.2.2.frozen 0
  obtain ⟨W9, hW9⟩ : ∃ W9, W9 = (((((w0.setCell ⟨w.heap.size + 1, 0, none⟩ (.int .i64 0)).setCell ⟨w.heap.size + 1, 1, none⟩ (.int .i64 0)).setCell ⟨w.heap.size + 1, 2, none⟩ (.slice none 0 0)).setCell ⟨w.heap.size + 1, 3, none⟩ (.slice none 0 0)).setCell ⟨w.heap.size + 1 + 1, 0, none⟩ (.bool false)).setCell ⟨w.heap.size + 1 + 1 + 1, 0, none⟩ (.int .i64 50) := ⟨_, rfl⟩
  have KS := Lib.hid (show Blk W9 (w.heap.size + 1) 29 #[.int .i64 0, .int .i64 0, .slice none 0 0, .slice none 0 0] by rw [hW9]; exact (((((Blk.set_ HBK.out.2.1 0 _).set_ 1 _).set_ 2 _).set_ 3 _).far (by show w.heap.size + 1 ≠ w.heap.size + 1 + 1; omega) _).far (by show w.heap.size + 1 ≠ w.heap.size + 1 + 1 + 1; omega) _)
  have KB := Lib.hid (show Blk W9 (w.heap.size + 1 + 1) 4 #[.bool false] by rw [hW9]; exact (Blk.set_ (((((Blk.far HBK.out.2.2.1 (by show w.heap.size + 1 + 1 ≠ w.heap.size + 1; omega) _).far (by show w.heap.size + 1 + 1 ≠ w.heap.size + 1; omega) _).far (by show w.heap.size + 1 + 1 ≠ w.heap.size + 1; omega) _).far (by show w.heap.size + 1 + 1 ≠ w.heap.size + 1; omega) _)) 0 (.bool false)).far (by show w.heap.size + 1 + 1 ≠ w.heap.size + 1 + 1 + 1; omega) _)
  have KE := Lib.hid (show Blk W9 (w.heap.size + 1 + 1 + 1) 30 #[.int .i64 50] by rw [hW9]; exact Blk.set_ ((((((Blk.far HBK.out.2.2.2 (by show w.heap.size + 1 + 1 + 1 ≠ w.heap.size + 1; omega) _).far (by show w.heap.size + 1 + 1 + 1 ≠ w.heap.size + 1; omega) _).far (by show w.heap.size + 1 + 1 + 1 ≠ w.heap.size + 1; omega) _).far (by show w.heap.size + 1 + 1 + 1 ≠ w.heap.size + 1; omega) _)).far (by show w.heap.size + 1 + 1 + 1 ≠ w.heap.size + 1 + 1; omega) _) 0 (.int .i64 50))
  have HB9 := Lib.hid (show Below w.heap.size w W9 by rw [hW9]; exact (((((HB0.out.setCell (p := ⟨w.heap.size + 1, 0, none⟩) (by show w.heap.size ≤ w.heap.size + 1; omega) _).setCell (p := ⟨w.heap.size + 1, 1, none⟩) (by show w.heap.size ≤ w.heap.size + 1; omega) _).setCell (p := ⟨w.heap.size + 1, 2, none⟩) (by show w.heap.size ≤ w.heap.size + 1; omega) _).setCell (p := ⟨w.heap.size + 1, 3, none⟩) (by show w.heap.size ≤ w.heap.size + 1; omega) _).setCell (p := ⟨w.heap.size + 1 + 1, 0, none⟩) (by show w.heap.size ≤ w.heap.size + 1 + 1; omega) _).setCell (p := ⟨w.heap.size + 1 + 1 + 1, 0, none⟩) (by show w.heap.size ≤ w.heap.size + 1 + 1 + 1; omega) _)
  have HUP2 : Hid (Calls Tryz.prog 14 #[.pointer (some ⟨g, 0, none⟩)] w0 fun e w' => e = .returned (.bool false) ∧ w0 = w') := by
   rw [ho] at HUP
   exact HUP
  have HW9 := Lib.hid hW9
  clear HR HLE ho HIX HUP hW9
  go_enter Tryz.func33, Tryz.ntmps33
  go_upto_region 1 with (fail)
  rw [← HW0.out]
  go_wp2_with fail
  refine HUP2.out.mono ?_
  rintro e w' ⟨rfl, rfl⟩
  go_wp2_with fail
  rw [← HW9.out]
  refine bodyPost_ret (results_load (fn := Tryz.f33) rfl _ _ (w.heap.size + 1) (w.heap.size + 1 + 1) (w.heap.size + 1 + 1 + 1) _ _ _ _ _ _ rfl rfl rfl KS.out KB.out KE.out) rfl ?_
  exact ⟨_, rfl, snapR_zero _ _, HB9.out⟩
 ·have ho' : p.off = false := by simpa using ho
  obtain ⟨L, hL⟩ : ∃ L, L = idxL (es.map (·.1)) := ⟨_, rfl⟩
  have hR2 : R = loadF (dkOf p room es) L.reverse := by
   have e : (dkOf p room es).fs.map (·.1) = es.map (·.1) := by
    show (sec FE.f es).map (·.1) = _
    rw [List.map_map]
    rfl
   rw [HR.out]
   unfold loadO
   rw [if_neg (by rw [ho']; simp), e, ← hL]
  have hLm : ∀ n ∈ L, 0 ≤ n ∧ n ≤ 1099511627776 := fun n hn => idxL_mem (by rw [← hL]; exact hn)
  have hLl : L.length ≤ 1000000000 := by rw [hL]; have := idxL_len (es.map (·.1)); rw [List.length_map] at this; omega
  have hE : LE = 0 := by rw [HLE.out]; unfold loadE; rw [if_neg (by rw [ho']; simp)]
  subst hE
  rw [← hL] at HIX
  have HLM := Lib.hid hLm
  have HR2 := Lib.hid hR2
  have HUP2 : Hid (Calls Tryz.prog 14 #[.pointer (some ⟨g, 0, none⟩)] w0 fun e w' => e = .returned (.bool true) ∧ w0 = w') := by
   rw [ho'] at HUP
   exact HUP
  clear HR HLE ho ho' hL hLm hR2 HUP
  refine (callsIn_wide (n := 9)).1 ?_
  refine callsIn_of_wp_marks Tryz.func33 rfl trivial ?_ rfl
  simp only [Tryz.ntmps33, List.size_toArray, List.length_cons, List.length_nil, Nat.reduceAdd, Nat.reduceSub, Array.replicate_succ, Array.replicate_zero, List.push_toArray, List.append_toArray, List.nil_append, List.cons_append]
  gi_wp2_with fail
  rw [← HW0.out]
  refine ⟨trivial, (callsIn_wide.2 HUP2.out).mono ?_⟩
  rintro e w' ⟨rfl, rfl⟩
  gi_wp2_with fail
  refine ⟨trivial, (callsIn_wide.2 HIX.out).mono ?_⟩
  rintro e w2 ⟨v2, rfl, hO2, hb2⟩
  obtain ⟨A2, c2, rfl, hc1, hc2, hr2⟩ := Own.shape hO2
  rw [List.length_map] at *
  have hs2 := hb2.size
  have hz0 := HZ0.out
  have HB2 := Lib.hid (HB0.out.trans (hb2.mono (by omega)))
  have HK2 := Lib.hid (And.intro (HBK.out.1.below hb2 (by omega)) (And.intro (HBK.out.2.1.below hb2 (by omega)) (And.intro (HBK.out.2.2.1.below hb2 (by omega)) (HBK.out.2.2.2.below hb2 (by omega)))))
  have HOW := Lib.hid hO2
  have HR2' := Lib.hid hr2
  clear hO2 hb2 hr2 HIX HUP2
  gi_wp2_with fail
  refine ⟨trivial, (callsIn_wide.2 (backward_any A2 L.length c2 _)).mono ?_⟩
  rintro e w3 ⟨rfl, rfl⟩
  gi_wp2_with fail
  have K1 := Blk.new w2 26 #[.slice A2 L.length c2]
  have hbL : Below w2.heap.size w2 (w2.alloc (.cells #[.slice A2 L.length c2] 26)) := (Below.refl _ w2).alloc (Nat.le_refl _) _
  have HZ : Hid ((w2.alloc (.cells #[.slice A2 L.length c2] 26)).heap.size = w2.heap.size + 1) := Lib.hid (by simp)
  generalize hWL : w2.alloc (.cells #[.slice A2 L.length c2] 26) = WL at K1 hbL HZ ⊢
  clear hWL
  have HAB : Hid (∀ ad, A2 = some ad → ad.block < w2.heap.size) := Lib.hid fun ad e => (Own.lt HOW.out ad.block (by rw [e]; rfl)).2
  have hrL : Rd WL WL.heap.size A2 (L.map (Value.int .i64)) := (HR2'.out.below hbL).more hbL.size
  have HBL := Lib.hid (HB2.out.trans (hbL.mono (by omega)))
  have HKL := Lib.hid (And.intro (HK2.out.1.below hbL (by omega)) (And.intro (HK2.out.2.1.below hbL (by omega)) (And.intro (HK2.out.2.2.1.below hbL (by omega)) (HK2.out.2.2.2.below hbL (by omega)))))
  have hzL : WL.heap.size = w2.heap.size + 1 := HZ.out
  have hwl : w.heap.size + 4 ≤ w2.heap.size := by omega
  have HZL := Lib.hid hzL
  have hzLa : w2.heap.size < WL.heap.size := by omega
  have hzLb : WL.heap.size ≤ w2.heap.size + 1 := by omega
  clear hzL hz0 HZ0 HK2 HB2 HBK HR2' HOW HB0 HW0 hbL
  refine wpIn_rangeFunc_ownG (by rfl) (by omega) (gf := 121) (lb := #[.pointer (some ⟨w2.heap.size, 0, none⟩)]) rfl trivial (enters_of Tryz.func121 (by kernel_rfl) rfl)
   (backward_stops (9 - 1) (by omega) w2.heap.size 1000000000 A2 L c2 (by omega) (by omega) _ K1 hrL)
   (fun h k => ⟨k.1.trans h.1, fun ad e => (k.2 ad e).trans (h.2 ad e)⟩) (fun W q o o' hq _ _ _ => ⟨World.putObj_heap_other (by omega), fun ad e => World.putObj_heap_other (by have := HAB.out ad e; omega)⟩) (Below.refl _ _) (fun _ => rfl)
   (fun pre W => Below WL.heap.size WL W ∧ ∀ y ∈ pre, openB ((dkOf p room es).read (sName L[y.1])).1 L[y.1] = false)
   (fun c pre W => c = .ret ∧ ∃ (pre' : List (Fin L.length)) (x : Fin L.length), pre = pre' ++ [x] ∧ (∀ y ∈ pre', openB ((dkOf p room es).read (sName L[y.1])).1 L[y.1] = false) ∧ openB ((dkOf p room es).read (sName L[x.1])).1 L[x.1] = true ∧ LoadAt w w.heap.size (w2.heap.size + 1) (allS ((dkOf p room es).read (sName L[x.1])).1) W)
   (fun pre X Y row hs hg hr => ⟨hs.1.grown hg hs.1.size (fun k e => (hr k e).1), hs.2⟩)
   (fun c pre X Y row hs hg hr => by
    obtain ⟨h1, pre', x, h2, h3, h4, h5⟩ := hs
    exact ⟨h1, pre', x, h2, h3, h4, h5.grown_off hg (fun r e => (hr r e).2) (fun r e => by have := (hr r e).1; omega)⟩)
   ⟨Below.refl _ _, (fun y hy => by cases hy)⟩
   (fun x => { tmps := #[Value.pointer (some ⟨g, 0, none⟩), Value.pointer (some ⟨w.heap.size, 0, none⟩), Value.pointer (some ⟨w.heap.size + 1, 0, none⟩), Value.pointer (some ⟨w.heap.size + 1 + 1, 0, none⟩), Value.pointer (some ⟨w.heap.size + 1 + 1 + 1, 0, none⟩), undef, .int .i64 L[x.1], undef, undef, undef, undef, Value.pointer (some ⟨g, 0, none⟩), Value.pointer (some ⟨g, 0, none⟩), Value.pointer (some ⟨g, 0, none⟩), Value.bool true, Value.bool false, undef, Value.pointer (some ⟨g, 0, none⟩), Value.slice A2 L.length c2, Value.func (Fn.func 121) #[] #[Value.pointer (some ⟨w2.heap.size, 0, none⟩)], .int .i64 (x.1 : Int), .int .i64 L[x.1], undef, undef, undef, undef, undef, undef, undef, undef, undef, undef, undef, undef, undef, undef, undef, undef], defers := [] }) ?assign ?body ?done ?stop
  case assign =>
   intro q x W K hK
   dsimp only [bkV] at *
   gi_wp2
   exact hK
  case body =>
   rintro q pre x W ⟨hbW, hall⟩ hlen
   have HBW := Lib.hid (HBL.out.trans (hbW.mono (by omega)))
   have HKW := Lib.hid (And.intro (HKL.out.1.below hbW (by omega)) (And.intro (HKL.out.2.1.below hbW (by omega)) (And.intro (HKL.out.2.2.1.below hbW (by omega)) (HKL.out.2.2.2.below hbW (by omega)))))
   have c0 : W.cell? ⟨w.heap.size, 0, none⟩ = some (.pointer (some ⟨g, 0, none⟩)) := HKW.out.1.cell 0
   have hsW := hbW.size
   have HBWL := Lib.hid hbW
   have HALL := Lib.hid hall
   obtain ⟨nx, hnx⟩ : ∃ nx, nx = L[x.1] := ⟨_, rfl⟩
   have hnr := HLM.out L[x.1] (List.getElem_mem x.2)
   rw [← hnx] at hnr ⊢
   have HNX := Lib.hid hnx
   have HNA := Lib.hid (kname_any nx (by omega) W.drew (HFA.out.below (HBW.out.trans ((Below.refl w.heap.size W).drew))).tab)
   clear hbW hall hnx
   gi_wp2_with fail
   refine wpIn_region_round q (by kernel_rfl) (fun _ _ h => h) (noDefer_spec (by kernel_rfl)) (S := fun W' => W'.cell? ⟨w.heap.size, 0, none⟩ = some (.pointer (some ⟨g, 0, none⟩)) ∧ True ∧ True ∧ True) ⟨c0, trivial, trivial, trivial⟩ (fun hHeld => ?_)
   refine held_take 0 (v := ?_) (by simp) (by kernel_rfl) (by kernel_rfl) (by kernel_rfl) (fun _ _ _ h => h) (Or.inl ⟨by rfl, ?_⟩) hHeld ?_
   case refine_2 => (intro w hSw; (try dsimp only at hSw); (try (obtain ⟨s0, s1, s2, s3⟩ := hSw)); simp only [List.getElem_cons_zero]; go_simp <;> with_reducible rfl)
   simp only [List.getElem_cons_zero, Act.put, List.setIfInBounds_toArray, List.set_cons_zero, List.set_cons_succ]
   refine held_take 1 (v := ?_) (by simp) (by kernel_rfl) (by kernel_rfl) (by kernel_rfl) (fun _ _ _ h => h) (Or.inl ⟨by rfl, ?_⟩) hHeld ?_
   case refine_2 => (intro w hSw; (try dsimp only at hSw); (try (obtain ⟨s0, s1, s2, s3⟩ := hSw)); simp only [List.getElem_cons_zero, List.getElem_cons_succ]; go_simp <;> with_reducible rfl)
   simp only [List.getElem_cons_zero, List.getElem_cons_succ, Act.put, List.setIfInBounds_toArray, List.set_cons_zero, List.set_cons_succ]
   refine held_sole 2 (by simp) (by kernel_rfl) (fun K hK => ?_)
   simp only [List.getElem_cons_zero, List.getElem_cons_succ]
   go_simp
   refine HNA.out.mono ?_
   rintro e W3 ⟨rfl, hb3⟩
   change Below W.heap.size W.drew W3 at hb3
   have hs3 := hb3.size
   change W.heap.size ≤ W3.heap.size at hs3
   have HB3 := Lib.hid (((Below.refl W.heap.size W).drew).trans hb3)
   have c03 : W3.cell? ⟨w.heap.size, 0, none⟩ = some (.pointer (some ⟨g, 0, none⟩)) := (HB3.out.cell (p := ⟨w.heap.size, 0, none⟩) (by show w.heap.size < W.heap.size; omega)).trans c0
   have HRE := Lib.hid (dread_any (HD.out.below (HBW.out.trans (HB3.out.mono (by omega)))) (str (sName nx)) (by have := sName_len nx (by omega); rw [str_size]; omega) (fun q hq => by have := HFE.out q hq; omega))
   rw [str_data] at HRE
   clear hb3 HNA
   go_wp2_with fail
   refine hK.out _ _ ⟨c03, trivial, trivial, trivial⟩ (fun hHeld => ?_)
   clear hK K
   try simp only [Act.put, List.setIfInBounds_toArray, List.set_cons_zero, List.set_cons_succ]
   refine held_sole 3 (by simp) (by kernel_rfl) (fun K hK => ?_)
   simp only [List.getElem_cons_zero, List.getElem_cons_succ]
   go_simp
   obtain ⟨B, hB⟩ : ∃ B, B = ((dkOf p room es).read (sName nx)).1 := ⟨_, rfl⟩
   rw [← hB] at HRE
   have HBB := Lib.hid hB
   clear hB
   refine HRE.out.mono ?_
   rintro e W4 ⟨v4, rfl, hv4, hb4⟩
   obtain ⟨A4, c4, rfl, hc4a, hc4b, hr4⟩ := bs_shape hv4
   have hs4 := hb4.size
   have HB4 := Lib.hid (HB3.out.trans (hb4.mono (by omega)))
   have c04 : W4.cell? ⟨w.heap.size, 0, none⟩ = some (.pointer (some ⟨g, 0, none⟩)) := (HB4.out.cell (p := ⟨w.heap.size, 0, none⟩) (by show w.heap.size < W.heap.size; omega)).trans c0
   have hBl : B.length ≤ 40000000 := by
    rw [HBB.out]
    unfold DkD.read
    split
    ·simp
    ·split
     ·simp
     ·rename_i f hf
      obtain ⟨q, hq, e⟩ := List.mem_map.1 (get_mem hf)
      injection e with e1 e2
      have := HFE.out q hq
      rw [← e2]
      exact this
   have HOP := Lib.hid (kopen_any A4 B c4 nx W4 hr4 hc4a (by omega) hBl)
   clear hv4 hb4 hr4 HRE
   go_wp2_with fail
   refine hK.out _ _ ⟨c04, trivial, trivial, trivial⟩ (fun hHeld => ?_)
   clear hK K
   try simp only [Act.put, List.setIfInBounds_toArray, List.set_cons_zero, List.set_cons_succ]
   refine held_take 4 (v := ?_) (by simp) (by kernel_rfl) (by kernel_rfl) (by kernel_rfl) (fun _ _ _ h => h) (Or.inl ⟨by rfl, ?_⟩) hHeld ?_
   case refine_2 => (intro w hSw; (try dsimp only at hSw); (try (obtain ⟨s0, s1, s2, s3⟩ := hSw)); simp only [List.getElem_cons_zero, List.getElem_cons_succ]; go_simp <;> with_reducible rfl)
   simp only [List.getElem_cons_zero, List.getElem_cons_succ, Act.put, List.setIfInBounds_toArray, List.set_cons_zero, List.set_cons_succ]
   refine held_take 5 (v := ?_) (by simp) (by kernel_rfl) (by kernel_rfl) (by kernel_rfl) (fun _ _ _ h => h) (Or.inl ⟨by rfl, ?_⟩) hHeld ?_
   case refine_2 => (intro w hSw; (try dsimp only at hSw); (try (obtain ⟨s0, s1, s2, s3⟩ := hSw)); simp only [List.getElem_cons_zero, List.getElem_cons_succ]; go_simp <;> with_reducible rfl)
   simp only [List.getElem_cons_zero, List.getElem_cons_succ, Act.put, List.setIfInBounds_toArray, List.set_cons_zero, List.set_cons_succ]
   refine held_take 6 (v := ?_) (by simp) (by kernel_rfl) (by kernel_rfl) (by kernel_rfl) (fun _ _ _ h => h) (Or.inl ⟨by rfl, ?_⟩) hHeld ?_
   case refine_2 => (intro w hSw; (try dsimp only at hSw); (try (obtain ⟨s0, s1, s2, s3⟩ := hSw)); simp only [List.getElem_cons_zero, List.getElem_cons_succ]; go_simp <;> with_reducible rfl)
   simp only [List.getElem_cons_zero, List.getElem_cons_succ, Act.put, List.setIfInBounds_toArray, List.set_cons_zero, List.set_cons_succ]
   refine held_take 7 (v := ?_) (by simp) (by kernel_rfl) (by kernel_rfl) (by kernel_rfl) (fun _ _ _ h => h) (Or.inl ⟨by rfl, ?_⟩) hHeld ?_
   case refine_2 => (intro w hSw; (try dsimp only at hSw); (try (obtain ⟨s0, s1, s2, s3⟩ := hSw)); simp only [List.getElem_cons_zero, List.getElem_cons_succ]; go_simp <;> with_reducible rfl)
   simp only [List.getElem_cons_zero, List.getElem_cons_succ, Act.put, List.setIfInBounds_toArray, List.set_cons_zero, List.set_cons_succ]
   refine held_take 8 (v := ?_) (by simp) (by kernel_rfl) (by kernel_rfl) (by kernel_rfl) (fun _ _ _ h => h) (Or.inl ⟨by rfl, ?_⟩) hHeld ?_
   case refine_2 => (intro w hSw; (try dsimp only at hSw); (try (obtain ⟨s0, s1, s2, s3⟩ := hSw)); simp only [List.getElem_cons_zero, List.getElem_cons_succ]; go_simp <;> with_reducible rfl)
   simp only [List.getElem_cons_zero, List.getElem_cons_succ, Act.put, List.setIfInBounds_toArray, List.set_cons_zero, List.set_cons_succ]
   refine wpAnyH_done (by kernel_rfl) ?_ _
   have HC04 := Lib.hid c04
   clear hHeld c0 c03 c04
   gi_wp2_with fail
   refine ⟨trivial, (CallsIn.inRound q (callsIn_wide.2 HOP.out)).mono ?_⟩
   rintro e W5 ⟨V, i5, t5, z5, l5, rfl, hS, hok, hb5⟩
   obtain ⟨xx, yy, rfl, hz5, hd5, hap5⟩ := hS
   obtain ⟨Ax, cx, ex, _⟩ := Own.shape hz5
   obtain ⟨Ay, cy, ey, _⟩ := bs_shape hd5
   rw [List.length_map] at ex
   subst ex ey
   have hs5 := hb5.size
   have HB5 := Lib.hid (HB4.out.trans (hb5.mono (by omega)))
   have hb6 : Below W5.heap.size W5 (W5.alloc (.cells #[.int .i64 i5, .int .i64 t5, .slice Ax z5.length cx, .slice Ay l5.length cy] 29)) := (Below.refl _ W5).alloc (Nat.le_refl _) _
   have HB6 := Lib.hid (HB5.out.trans (hb6.mono (by omega)))
   have HZ6 := Lib.hid (Own.below hz5 hb6 (Nat.le_refl _))
   have HD6 := Lib.hid (Own.below hd5 hb6 (Nat.le_refl _))
   have HAP := Lib.hid hap5
   have HOK := Lib.hid hok
   have HZ5 := Lib.hid hz5
   have HD5 := Lib.hid hd5
   clear hz5 hd5 hap5 hb5 hb6 HOP hok
   by_cases hop : openB B nx = true
   ·obtain ⟨rfl, rfl, rfl, rfl⟩ := HOK.out hop
    rw [hop]
    have HOPT := Lib.hid hop
    have K5 := Lib.hid (And.intro (HKW.out.2.1.below HB5.out (by omega)) (And.intro (HKW.out.2.2.1.below HB5.out (by omega)) (HKW.out.2.2.2.below HB5.out (by omega))))
    obtain ⟨d0, d1, d2, d3, f0, f1, f2, f3⟩ := blk4_cells K5.out.1
    have b1 : W5.cell? ⟨w.heap.size + 1 + 1, 0, none⟩ = some (.bool false) := K5.out.2.1.cell 0
    have b2 : W5.cell? ⟨w.heap.size + 1 + 1 + 1, 0, none⟩ = some (.int .i64 0) := K5.out.2.2.cell 0
    have q1 : W5.frozen? ⟨w.heap.size + 1 + 1, 0, none⟩ = false := K5.out.2.1.frozen 0
    have q2 : W5.frozen? ⟨w.heap.size + 1 + 1 + 1, 0, none⟩ = false := K5.out.2.2.frozen 0
    have hlt3 : w.heap.size + 1 < W5.heap.size := by omega
    have hlt4 : w.heap.size + 1 + 1 < W5.heap.size := by omega
    have hlt5 : w.heap.size + 1 + 1 + 1 < W5.heap.size := by omega
    obtain ⟨hne3, hne4, hne5⟩ : W5.heap.size ≠ w.heap.size + 1 ∧ W5.heap.size ≠ w.heap.size + 1 + 1 ∧ W5.heap.size ≠ w.heap.size + 1 + 1 + 1 := ⟨by omega, by omega, by omega⟩
    obtain ⟨hnf3, hnf4, hnf5⟩ : w.heap.size + 1 ≠ W5.heap.size ∧ w.heap.size + 1 + 1 ≠ W5.heap.size ∧ w.heap.size + 1 + 1 + 1 ≠ W5.heap.size := ⟨by omega, by omega, by omega⟩
    clear hop HOK
    gi_wp2_with fail
    obtain ⟨W9, hW9⟩ : ∃ W9, W9 = (((((W5.setCell ⟨w.heap.size + 1, 0, none⟩ (.int .i64 (oI (allS B)))).setCell ⟨w.heap.size + 1, 1, none⟩ (.int .i64 (oT (allS B)))).setCell ⟨w.heap.size + 1, 2, none⟩ (.slice Ax (oZ (allS B)).length cx)).setCell ⟨w.heap.size + 1, 3, none⟩ (.slice Ay (oD (allS B)).length cy)).setCell ⟨w.heap.size + 1 + 1, 0, none⟩ (.bool true)).setCell ⟨w.heap.size + 1 + 1 + 1, 0, none⟩ (.int .i64 0) := ⟨_, rfl⟩
    rw [← hW9]
    have KS := load_snap K5.out.1 _ _ _ _ _ _ hW9
    have KB := load_bool K5.out.2.1 _ _ _ _ _ _ hW9
    have KE := load_err K5.out.2.2 _ _ _ _ _ _ hW9
    have hB9 := load_below (HBW.out.trans (HB5.out.mono (by omega))) _ _ _ _ _ _ hW9
    have hKO : KeepsOthers W W9 := by
     rw [hW9]
     exact ((((((KeepsOthers.of_grownBy (grown_of_below HB5.out none) (fun _ _ h => by cases h)).trans (KeepsOthers.setCell _ _ _)).trans (KeepsOthers.setCell _ _ _)).trans (KeepsOthers.setCell _ _ _)).trans (KeepsOthers.setCell _ _ _)).trans (KeepsOthers.setCell _ _ _)).trans (KeepsOthers.setCell _ _ _)
    refine ⟨(hKO.trans (KeepsOthers.alloc W9 _)).from _, rfl, pre, x, rfl, HALL.out, by rw [← HNX.out, ← HBB.out]; exact HOPT.out, ?_⟩
    rw [← HNX.out, ← HBB.out]
    exact ⟨_, _, KS.alloc _, KB.alloc _, KE.alloc _, Own.mono (Own.alloc (own_keepB HZ5.out (fun q hq => by
     have := (Own.lt HZ5.out q hq).1
     exact load_far (by omega) (by omega) (by omega) _ _ _ _ _ _ hW9)) _) (by omega), Own.mono (Own.alloc (own_keepB HD5.out (fun q hq => by
     have := (Own.lt HD5.out q hq).1
     exact load_far (by omega) (by omega) (by omega) _ _ _ _ _ _ hW9)) _) (by omega), HAP.out, hB9.alloc hB9.size _⟩
   ·have hopf : openB B nx = false := by simpa using hop
    rw [hopf]
    have HOPF := Lib.hid hopf
    clear hop HOK hopf
    gi_wp2_with fail
    refine ⟨(KeepsOthers.of_grownBy (grown_of_below HB6.out none) (fun _ _ h => by cases h)).from _, ⟨HB6.out.block _ (by omega), fun ad e => HB6.out.block _ (by have := HAB.out ad e; omega)⟩, HBWL.out.trans (HB6.out.mono (by omega)), fun y hy => ?_⟩
    rcases List.mem_append.1 hy with hy | hy
    ·exact HALL.out y hy
    ·obtain rfl := List.mem_singleton.1 hy
     rw [← HNX.out, ← HBB.out]
     exact HOPF.out
  case done =>
   rintro D ys W hD rfl ⟨hbW, hall⟩ hDef
   have hRn : R = none := by rw [HR2.out]; exact loadF_none hall
   subst hRn
   have HKW := Lib.hid (And.intro (HKL.out.2.1.below hbW (by omega)) (And.intro (HKL.out.2.2.1.below hbW (by omega)) (HKL.out.2.2.2.below hbW (by omega))))
   have HBW := Lib.hid (HBL.out.trans (hbW.mono (by omega)))
   have hsW := hbW.size
   obtain ⟨d0, d1, d2, d3, f0, f1, f2, f3⟩ := blk4_cells HKW.out.1
   have b1 : W.cell? ⟨w.heap.size + 1 + 1, 0, none⟩ = some (.bool false) := HKW.out.2.1.cell 0
   have b2 : W.cell? ⟨w.heap.size + 1 + 1 + 1, 0, none⟩ = some (.int .i64 0) := HKW.out.2.2.cell 0
   have q1 : W.frozen? ⟨w.heap.size + 1 + 1, 0, none⟩ = false := HKW.out.2.1.frozen 0
   have q2 : W.frozen? ⟨w.heap.size + 1 + 1 + 1, 0, none⟩ = false := HKW.out.2.2.frozen 0
   have HDF := Lib.hid hDef
   clear hbW hall hDef
   gi_wp2_with fail
   obtain ⟨W9, hW9⟩ : ∃ W9, W9 = (((((W.setCell ⟨w.heap.size + 1, 0, none⟩ (.int .i64 0)).setCell ⟨w.heap.size + 1, 1, none⟩ (.int .i64 0)).setCell ⟨w.heap.size + 1, 2, none⟩ (.slice none 0 0)).setCell ⟨w.heap.size + 1, 3, none⟩ (.slice none 0 0)).setCell ⟨w.heap.size + 1 + 1, 0, none⟩ (.bool false)).setCell ⟨w.heap.size + 1 + 1 + 1, 0, none⟩ (.int .i64 0) := ⟨_, rfl⟩
   rw [← hW9]
   have KS := load_snap HKW.out.1 (.int .i64 0) (.int .i64 0) (.slice none 0 0) (.slice none 0 0) (.bool false) (.int .i64 0) hW9
   have KB := load_bool HKW.out.2.1 (.int .i64 0) (.int .i64 0) (.slice none 0 0) (.slice none 0 0) (.bool false) (.int .i64 0) hW9
   have KE := load_err HKW.out.2.2 (.int .i64 0) (.int .i64 0) (.slice none 0 0) (.slice none 0 0) (.bool false) (.int .i64 0) hW9
   have hB9 := load_below HBW.out (.int .i64 0) (.int .i64 0) (.slice none 0 0) (.slice none 0 0) (.bool false) (.int .i64 0) hW9
   have hD9 : W9.heap[D]? = some (.deferred (some [])) := (load_far (k := D) (by omega) (by omega) (by omega) (.int .i64 0) (.int .i64 0) (.slice none 0 0) (.slice none 0 0) (.bool false) (.int .i64 0) hW9).trans HDF.out
   refine ⟨by simp, .inl ⟨_, _, rfl, run_takeDeferred hD9, ?_⟩⟩
   have hDs : w.heap.size + 4 ≤ D := by omega
   refine ⟨_, results_load rfl _ _ (w.heap.size + 1) (w.heap.size + 1 + 1) (w.heap.size + 1 + 1 + 1) _ _ _ _ _ _ rfl rfl rfl (blk_put KS (by omega)) (blk_put KB (by omega)) (blk_put KE (by omega)), _, rfl, snapR_zero _ _, below_put hB9 hD9 (by omega)⟩
  case stop =>
   rintro D c ys W hD hS ⟨rfl, pre', x, rfl, hall, hx, hL⟩ hDef
   have hRs : R = some (allS ((dkOf p room es).read (sName L[x.1])).1) := by rw [HR2.out]; exact loadF_some hS hall hx
   subst hRs
   obtain ⟨xx, yy, h1, h2, h3, h4, h5, h6, h7⟩ := hL
   have HDF := Lib.hid hDef
   have HL := Lib.hid (And.intro h1 (And.intro h2 (And.intro h3 (And.intro h4 (And.intro h5 (And.intro h6 h7))))))
   clear h1 h2 h3 h4 h5 h6 h7 hDef hall hx hS
   gi_wp2_with fail
   obtain ⟨h1, h2, h3, h4, h5, h6, h7⟩ := HL.out
   refine ⟨by simp, .inl ⟨_, _, rfl, run_takeDeferred HDF.out, ?_⟩⟩
   have hDs : w.heap.size + 4 ≤ D := by omega
   have hDb : ∀ k cs t, W.heap[k]? = some (Obj.cells cs t (0, 0)) → k ≠ D := fun k cs t hk e => by
    subst e
    rw [HDF.out] at hk
    cases hk
   refine ⟨_, results_load rfl _ _ (w.heap.size + 1) (w.heap.size + 1 + 1) (w.heap.size + 1 + 1 + 1) _ _ _ _ _ _ rfl rfl rfl (blk_put h1 (by omega)) (blk_put h2 (by omega)) (blk_put h3 (by omega)), _, rfl, ⟨_, _, rfl, ?_, ?_, h6⟩, below_put h7 HDF.out (by omega)⟩
   ·exact Own.mono (own_keepB h4 (fun q hq => by
     obtain ⟨cs, hc⟩ := ownsRow_held h4 hq
     exact World.putObj_heap_other (fun e => by subst e; rw [HDF.out] at hc; cases hc))) (by omega)
   ·exact Own.mono (own_keepB h5 (fun q hq => by
     obtain ⟨cs, hc⟩ := ownsRow_held h5 hq
     exact World.putObj_heap_other (fun e => by subst e; rw [HDF.out] at hc; cases hc))) (by omega)
end Go.Proofs.YteehkcpokgeipaaGreatDoor
