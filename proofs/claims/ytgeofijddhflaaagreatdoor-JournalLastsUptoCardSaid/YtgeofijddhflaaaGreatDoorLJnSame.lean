/- Two rows of entries that are one, or not (pavaneref22.Same). Condition: they can be read. -/
import Derived.Test.YtgeofijddhflaaaGreatDoorLOpenT
set_option linter.unusedVariables false
set_option linter.unusedSimpArgs false
set_option maxHeartbeats 8000000
set_option maxRecDepth 100000
namespace Go.Proofs.YtgeofijddhflaaaGreatDoor
section
open Go.RowKit Oct
theorem aC2 {w : World} {base : Nat} {e : TypeId} {size n : Nat} {v : Value} {xs : List Value} (h : w.ownsRow base e size v n xs) :
  ∃ A c, v = .slice A n c ∧ n <= c ∧ c <= 9223372036854775807 ∧ (0 < n -> ∃ g a7, A = some ⟨g, 0, none⟩ ∧ base <= g ∧ g < w.heap.size ∧ w.heap[g]? = some (.cells a7 e (0, 0)) ∧ a7.size = c * size ∧ ∀ j u, xs[j]? = some u -> w.cell? ⟨g, j, none⟩ = some u) := by
 rcases h.2 with ⟨rfl, h0⟩ | ⟨g, cap, a7, rfl, hb, hg, hn, hm, hs, ht⟩
 ·exact ⟨none, 0, by rw [h0], by omega, by omega, fun hn => by omega⟩
 refine ⟨_, cap, rfl, hn, by unfold maxLen at hm; omega, fun hn => ⟨g, a7, rfl, hb, (Array.getElem?_eq_some_iff.1 hg).1, hg, hs, fun j u hj => ?_⟩⟩;rw [cell_of_row w g j a7 e (0, 0) hg];rw [<- ht] at hj;rw [List.getElem?_take] at hj;split at hj
 ·simpa using hj
 cases hj
theorem jrow_type_ne {w : World} {b1 b2 : Nat} {e1 e2 : TypeId} {s1 s2 n1 n2 : Nat} {u v : Value} {x1 x2 : List Value} (h1 : w.ownsRow b1 e1 s1 u n1 x1) (h2 : w.ownsRow b2 e2 s2 v n2 x2) (he : e1 ≠ e2) : u.ownBlock = none ∨ u.ownBlock ≠ v.ownBlock := by
 cases hu : u.ownBlock with
 | none => exact .inl rfl
 | some q =>
  refine .inr fun e => ?_
  obtain ⟨cs, hc⟩ := aD1 h1 hu;obtain ⟨a8, a7⟩ := aD1 h2 e.symm;rw [hc] at a7;injection a7 with a7
  injection a7 with _ h _
  exact he h
def bD9 (w : World) (B : Nat) (v : Value) (l : List UInt8) : Prop := ∃ (g c : Nat) (cs : Array Value) (fz : Nat × Nat), v = .slice (some ⟨g, 0, none⟩) l.length c ∧ l.length <= c ∧ c <= 9223372036854775807 ∧ B <= g ∧ w.heap[g]? = some (.cells cs 5 fz) ∧ ∀ (j : Nat) (u : Value), (cells l)[j]? = some u -> cs[j]? = some u
section
variable {w w' : World} {B : Nat} {v : Value} {l : List UInt8}
theorem bD9.lt (h : bD9 w B v l) : ∀ q, v.ownBlock = some q -> B <= q ∧ q < w.heap.size := by
 obtain ⟨g, c, cs, fz, rfl, h1, h2, h3, h4, h5⟩ := h;intro q hq;injection hq with hq
 subst hq;exact ⟨h3, (Array.getElem?_eq_some_iff.1 h4).1⟩
theorem bD9.held (h : bD9 w B v l) : ∃ g cs fz, v.ownBlock = some g ∧ w.heap[g]? = some (.cells cs 5 fz) := by
 obtain ⟨g, c, cs, fz, rfl, h1, h2, h3, h4, h5⟩ := h;exact ⟨g, cs, fz, rfl, h4⟩
theorem bD9.keep (h : bD9 w B v l) (hk : ∀ q, v.ownBlock = some q -> w'.heap[q]? = w.heap[q]?) : bD9 w' B v l := by
 obtain ⟨g, c, cs, fz, rfl, h1, h2, h3, h4, h5⟩ := h;exact ⟨g, c, cs, fz, rfl, h1, h2, h3, (hk g rfl).trans h4, h5⟩
theorem bD9.mono {B' : Nat} (h : bD9 w B v l) (hB : B' <= B) : bD9 w B' v l := by
 obtain ⟨g, c, cs, fz, rfl, h1, h2, h3, h4, h5⟩ := h;exact ⟨g, c, cs, fz, rfl, h1, h2, by omega, h4, h5⟩
theorem bD9.datF {F : Nat -> Prop} (h : bD9 w B v l) (hF : ∀ k, B <= k -> k < w.heap.size -> F k) : bB7 w F v l := by
 obtain ⟨g, c, cs, fz, rfl, h1, h2, h3, h4, h5⟩ := h;have a7 := (Array.getElem?_eq_some_iff.1 h4).1;exact ⟨_, c, rfl, h1, h2, fun _ => ⟨g, 0, rfl, hF g h3 a7, a7, fun j u hu => by
  rw [cell_of_row w g (0 + j) cs _ fz h4, Nat.zero_add];exact h5 j u hu⟩⟩
end
theorem dC1 (w : World) (o : Obj) : (w.drew.alloc o).heap[w.heap.size]? = some o := by
 show (w.heap.push o)[w.heap.size]? = some o
 simp
theorem cY3 (w : World) (l : List UInt8) (hl : l.length <= 9223372036854775807) : ∃ v w', (convert 9 34 (.string (str l))).run Tryz.prog w = .ok v w' ∧ bD9 w' w.heap.size v l ∧ Below w.heap.size w w' := by
 have hs : (str l).size = l.length := aP0 l;have a7 := grownCap_ge w (str l).size 0 5;have a8 := grownCap_le_maxLen w (str l).size 0 5 (by rw [hs]; unfold maxLen; omega);refine ⟨_, _, run_bytes_of_string w 9 34 5 (str l) Tryz.underlying9 Tryz.underlying34 Tryz.underlying5, ?_, ?_⟩
 ·rw [hs]
  rw [hs] at a7 a8;refine ⟨w.heap.size, _, _, _, rfl, a7, by unfold maxLen at a8; omega, lR _, dC1 _ _, fun j u hu => ?_⟩;have hj := (List.getElem?_eq_some_iff.1 hu).1;rw [aA2] at hj;rw [bytesRow_at _ _ _ (by simpa [str] using hj)];rw [<- hu];simp [cells, str, hj]
 exact (aA4 (lS _ w) 1).alloc (lR _) _
structure aY5 (w : World) (G : Nat) (s : aB1) (rs : List aD8) (vl ve tv : Value) : Prop where
 blk : Blk w G 106 #[.int .i64 s.k, .int .i64 s.first, .int .i64 s.term, vl, ve, tv]
 ents : w.ownsRow (G + 1) 65 4 vl rs.length (aA7 rs)
 map : rs.map aD8.e = s.l
 dat : ∀ q ∈ rs, bD9 w (G + 1) q.v q.e.b
 ends : Own w (G + 1) 3 ve (s.ends.map (Value.int .i64))
section
variable {w w' : World} {G : Nat} {s : aB1} {rs : List aD8} {vl ve tv : Value}
theorem aY5.new (h : aY5 w G s rs vl ve tv) (hb : Below w.heap.size w w') : aY5 w' G s rs vl ve tv :=
 ⟨h.blk.below hb h.blk.lt, World.ownsRow.kept h.ents (aA5 hb none) (by cases vl.ownBlock <;> simp), h.map, fun q hq => (h.dat q hq).keep fun k hk => hb.block k ((h.dat q hq).lt k hk).2, Own.below h.ends hb (lR _)⟩
theorem aY5.headed (h : aY5 w G s rs vl ve tv) (hg : w.grownBy w' (some G)) {f t : Int} (hB : Blk w' G 106 #[.int .i64 s.k, .int .i64 f, .int .i64 t, vl, ve, tv]) : aY5 w' G { s with first := f, term := t } rs vl ve tv :=
 ⟨hB, World.ownsRow.kept h.ents hg (by
  cases hv : vl.ownBlock with
  | none => exact .inl rfl
  | some q => exact .inr fun e => by injection e with e; have := (World.ownsRow.lt h.ents q hv).1; omega), h.map, fun q hq => (h.dat q hq).keep fun k hk => hg.block k ((h.dat q hq).lt k hk).2 (fun e => by injection e with e; have := ((h.dat q hq).lt k hk).1; omega), Own.far h.ends hg (by omega)⟩
theorem aY5.push {w2 : World} {vl' : Value} {q : aD8} (h : aY5 w G s rs vl ve tv) (hq : bD9 w (G + 1) q.v q.e.b) (a8 : w2.ownsRow (G + 1) 65 4 vl' (rs.length + 1) (aA7 rs ++ aM6 q)) (hg : w.grownBy w2 vl.ownBlock) :
  aY5 (w2.setCell ⟨G, 3, none⟩ vl') G { s with l := s.l ++ [q.e] } (rs ++ [q]) vl' ve tv := by
 have d8 : ∀ k, vl.ownBlock = some k -> G < k := fun k hk => by have := (World.ownsRow.lt h.ents k hk).1; omega
 have a9 : ∀ (v : Value) (l : List UInt8), bD9 w (G + 1) v l -> bD9 (w2.setCell ⟨G, 3, none⟩ vl') (G + 1) v l := fun v l hd => hd.keep fun k hk => by
  have h2 := hd.lt k hk;rw [Below.heap_setCell w2 ⟨G, 3, none⟩ vl' k (by show k ≠ G; omega)];refine hg.block k h2.2 fun e => ?_
  obtain ⟨g, cs, fz, e1, hc⟩ := hd.held;rw [hk] at e1;injection e1 with e1
  subst e1;obtain ⟨e9, a7⟩ := aD1 h.ents e.symm;rw [hc] at a7;injection a7 with a7
  injection a7 with _ h _
  exact absurd h (by decide)
 have b8 := aA0 w2 G 3 vl';have k1 : Blk w2 G 106 _ := h.blk.grown hg (fun e => by have := d8 G e.symm; omega);refine ⟨Blk.set_ k1 3 _, ?_, by rw [mE, h.map]; rfl, fun x hx => ?_, Own.far (Own.kept h.ends hg (jrow_type_ne h.ends h.ents (by decide))) b8 (by omega)⟩
 ·rw [aJ6, lT]
  have : w2.ownsRow (G + 1) 65 4 vl' (rs.length + [q].length) (aA7 rs ++ aA7 [q]) := by simpa [aA7] using a8
  exact World.ownsRow.kept this b8 (by
   cases hv : vl'.ownBlock with
   | none => exact .inl rfl
   | some k => exact .inr fun e => by injection e with e; have := (World.ownsRow.lt this k hv).1; omega)
 rcases List.mem_append.1 hx with hx | hx
 ·exact a9 _ _ (h.dat x hx)
 obtain rfl := List.mem_singleton.1 hx;exact a9 _ _ hq
theorem aY5.last (h : aY5 w G s rs vl ve tv) (hf : 0 <= s.first ∧ s.first <= 9223372036854775807) (hn : rs.length <= 4611686018427387904) :
  Calls Tryz.prog 62 #[.pointer (some ⟨G, 0, none⟩)] w fun e w' => e = .returned (.tuple #[.int .i64 s.last.1, .int .i64 s.last.2]) ∧ Below w.heap.size w w' := by
 obtain ⟨A, c, rfl, h1, h2, h3⟩ := aC2 h.ents;have c1 : w.cell? ⟨G, 0 + 1, none⟩ = some (.int .i64 s.first) := h.blk.cell 1;have c2 : w.cell? ⟨G, 0 + 2, none⟩ = some (.int .i64 s.term) := h.blk.cell 2;have c3 : w.cell? ⟨G, 0 + 3, none⟩ = some (.slice A rs.length c) := h.blk.cell 3;rcases mJ rs with rfl | ⟨r, q, rfl⟩
 ·have hl : s.last = (s.first - 1, s.term) := by
   unfold aB1.last;rw [<- h.map]
   rfl
  rw [hl];exact bQ1 G 0 s.first s.term A c hf w c1 c2 c3
 rw [mA] at h;simp only [mA, lT] at hn h3 c3;have hl : s.last = (q.e.ix, q.e.tm) := by
  unfold aB1.last;rw [<- h.map];simp
 rw [hl];obtain ⟨g, a9, rfl, b8, a8, _, _, hc⟩ := h3 (by simp);obtain ⟨g', cd, cs, fz, hv, _⟩ := h.dat q (by simp);have a7 : ∀ j, j < 4 -> (aA7 (r ++ [q]))[r.length * 4 + j]? = (aM6 q)[j]? := fun j hj => by
  rw [aE6 _ (k := r.length) (by simp) hj];simp
 have e0 := hc (r.length * 4 + 0) _ (a7 0 (by omega));have e1 := hc (r.length * 4 + 1) _ (a7 1 (by omega));have e2 := hc (r.length * 4 + 2) _ (a7 2 (by omega));have e3 := hc (r.length * 4 + 3) _ (a7 3 (by omega));exact bQ2 G 0 r.length g 0 c q.e.ix q.e.tm q.e.kd (some ⟨g', 0, none⟩) q.e.b.length cd (by simp at hn; omega) w c3 (by simpa using e0) (by simpa using e1) (by simpa using e2) (by simpa [hv] using e3) h.blk.lt a8
end
end
section
open Go.RowKit Oct
theorem aI8 : (Tryz.prog.info? 65).map (fun i => (i.zero, i.size, i.bytes)) = some (some (.agg #[.int .i64 0, .int .i64 0, .int .i64 0, .slice none 0 0]), 4, 48) := by kernel_rfl
theorem cG3 {p : List UInt8} {a : Int} (h : (aD9 2 p).2.isSome = false) : aH9 p a = none := by
 unfold aH9;rcases hN : aD9 2 p with ⟨v, _ | r⟩
 ·split
  ·rename_i e; cases e
  rfl
 rw [hN] at h;cases h
theorem cY8 {p : List UInt8} {a t k : Int} {r : List UInt8} (h1 : (aD9 2 p).1 = [t, k]) (h2 : (aD9 2 p).2 = some r) : aH9 p a = if (aH5 r).2.2 ≠ 0 ∨ (aH5 r).2.1 ≠ r.length ∨ aD6 - 1 <= a then none else some ⟨a + 1, t, k, (aH5 r).1⟩ := by
 unfold aH9;rcases hN : aD9 2 p with ⟨v, o⟩
 rw [hN] at h1 h2;simp only at h1 h2;subst h1 h2
 rfl
theorem cZ2 (l : List UInt8) : (aH5 l).1.length <= l.length := by
 unfold aH5;split
 ·split
  ·simp
  rw [lV, lZ];omega
 simp
theorem cZ0 {n : Nat} {b r : List UInt8} (h : (aD9 n b).2 = some r) : r.length <= b.length := by
 induction n generalizing b with
 | zero => injection h with h; rw [h]; exact lR _
 | succ n ih =>
  unfold aD9 at h;split at h
  ·cases h
  have := ih h;rw [lZ] at this;omega
theorem bO2 (A : Option Addr) (b : List UInt8) (c G : Nat) (w : World) {s : aB1} {rs : List aD8} {vl ve tv : Value} (hS : aY5 w G s rs vl ve tv) (hr : Rd w G A (cells b)) (C1 : b.length <= c) (hb : b.length <= 140737488351232) (hc : c <= 9223372036854775807)
  (hf : 0 <= s.first ∧ s.first <= 9223372036854775807) (hn : rs.length <= 1000000000) (hl : -9223372036854775808 <= s.last.1) :
  Calls Tryz.prog 146 #[.pointer (some ⟨G, 0, none⟩), .slice A b.length c] w fun e w' => e = .returned (.bool (aH9 b s.last.1).isSome) ∧ Below G w w' ∧
   (aH9 b s.last.1 = none -> aY5 w' G s rs vl ve tv) ∧ ∀ q, aH9 b s.last.1 = some q -> ∃ v vl', aY5 w' G { s with l := s.l ++ [q] } (rs ++ [⟨v, q⟩]) vl' ve tv := by
 have HS := qZ hS;have HL := qZ (hS.last hf (by omega));have HR := qZ hr;have D6 : G < w.heap.size := hS.blk.lt;obtain ⟨A3, c3, z8, _⟩ := aC2 hS.ents;subst z8;obtain ⟨ix, x8⟩ : ∃ ix, ix = s.last.1 := ⟨_, rfl⟩
 rw [<- x8] at HL hl ⊢;generalize s.last.2 = lt at HL
 clear hS hr x8;go_enter Tryz.func146, Tryz.ntmps146
 go_wp2_with fail
 refine HL.out.mono ?_;rintro e w1 ⟨rfl, n6⟩;have C6 := n6.size;have p5 := qZ n6;clear n6 HL;have i3 : Blk (w1.alloc (.cells #[.int .i64 0, .int .i64 0, .int .i64 0, .slice none 0 0] 65)) w1.heap.size 65 #[.int .i64 0, .int .i64 0, .int .i64 0, .slice none 0 0] := Blk.new w1 _ _;have l6 : Below w.heap.size w (w1.alloc (.cells #[.int .i64 0, .int .i64 0, .int .i64 0, .slice none 0 0] 65)) := p5.out.trans ((lS _ w1).alloc (by omega) _);go_upto_region 3 with (fail)
 obtain ⟨wE, B1⟩ : ∃ wE, wE = w1.alloc (.cells #[.int .i64 0, .int .i64 0, .int .i64 0, .slice none 0 0] 65) := ⟨_, rfl⟩
 obtain ⟨E0, q8⟩ : ∃ E0, E0 = w1.heap.size := ⟨_, rfl⟩
 rw [<- B1] at i3 l6 ⊢;rw [<- q8] at i3 C6 ⊢;have C0 : E0 < wE.heap.size := i3.lt;have q5 := qZ i3;have m2 := qZ l6;have C9 := l6.size;clear B1 q8 i3 l6 p5;have i4 : Below wE.heap.size wE (wE.alloc (.cells [Value.pointer (some ⟨E0, 1, none⟩), Value.pointer (some ⟨E0, 2, none⟩)].toArray 155)) := (lS _ wE).alloc (lR _) _;have p6 := qZ i4;have D0 := i4.size;have m6 : Hid (Calls Tryz.prog 104 #[.slice A b.length c, .slice (some ⟨wE.heap.size, 0, none⟩) 2 2] (wE.alloc (.cells [Value.pointer (some ⟨E0, 1, none⟩), Value.pointer (some ⟨E0, 2, none⟩)].toArray 155)) _) := qZ (aS6 A b c (some ⟨wE.heap.size, 0, none⟩) 2 2 E0 1 65 #[.int .i64 0, .int .i64 0, .int .i64 0, .slice none 0 0] (wE.alloc (.cells [Value.pointer (some ⟨E0, 1, none⟩), Value.pointer (some ⟨E0, 2, none⟩)].toArray 155))
  ((((HR.out.more (by omega)).below m2.out).more (by omega : w.heap.size <= wE.heap.size)).below i4 |>.more D0) (fun h0 ad e => by obtain ⟨D3, e', D9, _⟩ := HR.out (by rw [aA2]; exact h0); rw [e] at e'; injection e' with e'; subst e'; omega) C1 hb hc
  ((aG4 wE 155 [Value.pointer (some ⟨E0, 1, none⟩), Value.pointer (some ⟨E0, 2, none⟩)]).more (by simp)) (fun ad e => by injection e with e; subst e; show wE.heap.size ≠ E0; omega) (q5.out.below i4 C0) (by omega) (fun i hi => by
   have : i = 0 ∨ i = 1 := by omega
   rcases this with rfl | rfl
   ·exact ⟨_, rfl, rfl⟩
   exact ⟨_, rfl, rfl⟩))
 clear i4;obtain ⟨p4, o7⟩ : ∃ p4, p4 = (aD9 2 b).2.isSome := ⟨_, rfl⟩
 rw [<- o7] at m6;have m4 := qZ o7;clear o7;go_wp2_with fail
 refine m6.out.mono ?_;rintro e w3 ⟨v, rfl, x7, ⟨j6, z8, m7, z9⟩, Ar, rr, cr, rfl, C4, D7, y7, g9⟩;have d8 : Below w.heap.size w w3 := (m2.out.trans (p6.out.mono C9)).grown x7 (by omega) (fun j hj => by injection hj with hj; omega);have y8 := d8.size;have B9 : E0 < w3.heap.size := m7.lt;have C5 : rr.length <= 140737488351232 := by
  cases hq : (aD9 2 b).2 with
  | none => rw [hq] at g9; rw [<- g9]; simp
  | some r => rw [hq] at g9; have := cZ0 hq; rw [<- g9]; show r.length <= _; omega
 have q6 := qZ (cB2 Ar rr cr w3 y7 C4 (by omega));have m0 := qZ (And.intro m7 d8);have q7 := qZ z9;have p8 := qZ g9;clear m7 d8 z9 g9 x7 m6 p6 q5 m2 y7;go_wp2_with fail
 refine q6.out.mono ?_;rintro e w4 ⟨rfl, t8⟩;have f8 := qZ t8;clear q6 t8;have i6 : aH9 b ix = none -> ∀ w5 : World, Below w4.heap.size w4 w5 -> (.returned (.bool false) : Ending) = .returned (.bool (aH9 b ix).isSome) ∧ Below G w w5 ∧
   (aH9 b ix = none -> aY5 w5 G s rs (.slice A3 rs.length c3) ve tv) ∧ ∀ q, aH9 b ix = some q -> ∃ v vl', aY5 w5 G { s with l := s.l ++ [q] } (rs ++ [⟨v, q⟩]) vl' ve tv := fun hN w5 g7 => by
  have hb : Below w.heap.size w w5 := (m0.out.2.trans (f8.out.mono y8)).trans (g7.mono (by have := f8.out.size; omega));refine ⟨by rw [hN]; rfl, hb.mono (by omega), fun _ => HS.out.new hb, fun q h => by rw [hN] at h; cases h⟩
 have a7 := qZ i6;clear i6;obtain ⟨tx, o8⟩ : ∃ tx, tx = (aH5 rr).1 := ⟨_, rfl⟩
 obtain ⟨us, o9⟩ : ∃ us, us = (aH5 rr).2.1 := ⟨_, rfl⟩
 obtain ⟨er, n7⟩ : ∃ er, er = (aH5 rr).2.2 := ⟨_, rfl⟩
 rw [<- o8, <- o9, <- n7];have j9 := qZ (And.intro o8 (And.intro o9 n7));clear o8 o9 n7;cases p4 with
 | false =>
  have hN := cG3 (a := ix) m4.out.symm;have b8 := qZ (a7.out hN);clear hN a7;go_wp2_with fail
  go_ret
  exact b8.out _ (lS _ _)
 | true =>
  obtain ⟨r, l7⟩ := Option.isSome_iff_exists.1 m4.out.symm;obtain rfl : r = rr := by have := p8.out; rw [l7] at this; exact this
  obtain ⟨y9, z7⟩ := q7.out r l7;obtain ⟨t, k, rfl⟩ : ∃ t k, j6 = [t, k] := by
   match j6, z7 with
   | [t, k], _ => exact ⟨t, k, rfl⟩
  have m9 := cY8 (a := ix) y9.symm l7;rw [<- j9.out.1, <- j9.out.2.1, <- j9.out.2.2] at m9;have i1 := qZ m9;clear y9 z7 l7 m9 m4 q7 p8;by_cases e1 : er = 0
  rotate_left
  ·have b8 := qZ (a7.out (by rw [i1.out, if_pos (.inl e1)]))
   clear a7;go_wp2_with fail
   go_ret
   exact b8.out _ (lS _ _)
  subst e1;by_cases e2 : us = r.length
  rotate_left
  ·have b8 := qZ (a7.out (by rw [i1.out, if_pos (.inr (.inl e2))]))
   have D5 : ((us : Int) != (r.length : Int)) = true := by simp; omega
   clear a7;go_wp2_with fail
   go_ret
   exact b8.out _ (lS _ _)
  subst e2;by_cases e3 : aD6 - 1 <= ix
  ·have b8 := qZ (a7.out (by rw [i1.out, if_pos (.inr (.inr e3))]))
   unfold aD6 at e3;clear a7;go_wp2_with fail
   go_ret
   exact b8.out _ (lS _ _)
  have hN : aH9 b ix = some ⟨ix + 1, t, k, tx⟩ := by
   rw [i1.out, if_neg (by rintro (h | h | h); exact h rfl; exact h rfl; exact e3 h)]
  unfold aD6 at e3;have hw : IntKind.i64.wrap (ix + 1) = ix + 1 := mH _ (by omega);have D8 : decide (ix >= 9223372036854775806) = false := by simp; omega
  have E6 : tx.length <= 140737488351232 := by rw [j9.out.1]; have := cZ2 r; omega
  obtain ⟨vd, w5, C2, hd, g7⟩ := cY3 w4 tx (by omega);have HD := qZ hd;obtain ⟨gd, cd, D4, fz, rfl, _⟩ := hd;have f9 : Blk w5 E0 65 #[.int .i64 0, .int .i64 t, .int .i64 k, .slice none 0 0] := (m0.out.1.below f8.out B9).below g7 (by have := f8.out.size; omega);have f0 : w5.cell? ⟨E0, 0, none⟩ = some (.int .i64 0) := f9.cell 0;have f3 : w5.cell? ⟨E0, 3, none⟩ = some (.slice none 0 0) := f9.cell 3;have z0 : w5.frozen? ⟨E0, 0, none⟩ = false := f9.frozen _;have z3 : w5.frozen? ⟨E0, 3, none⟩ = false := f9.frozen _;have p9 := qZ f9;have B2 := qZ g7;have m3 := qZ hN;have E1 := f8.out.size;have E2 := g7.size;clear f9 g7 hN a7 i1 e3;go_upto_region 8 with (fail)
  obtain ⟨w6, l8⟩ : ∃ w6, w6 = ((w5.setCell ⟨E0, 0, none⟩ (.int .i64 (ix + 1))).setCell ⟨E0, 3, none⟩ (.slice (some ⟨gd, 0, none⟩) tx.length cd)) := ⟨_, rfl⟩
  have g6 : Blk w6 E0 65 #[.int .i64 (ix + 1), .int .i64 t, .int .i64 k, .slice (some ⟨gd, 0, none⟩) tx.length cd] := by rw [l8]; exact (p9.out.set_ 0 _).set_ 3 _
  have a9 : w5.grownBy w6 (some E0) := by rw [l8]; exact aB8 (aA0 w5 E0 0 _) (aA0 _ E0 3 _) (.inl rfl)
  have l5 : Below w.heap.size w w6 := ((m0.out.2.trans (f8.out.mono y8)).trans (B2.out.mono (by omega))).grown a9 (by omega) (fun j hj => by injection hj with hj; omega);have x5 : bD9 w6 (G + 1) (.slice (some ⟨gd, 0, none⟩) tx.length cd) tx := (HD.out.keep fun q hq => a9.block q (HD.out.lt q hq).2 (fun e => by injection e with e; have := (HD.out.lt q hq).1; omega)).mono (by omega);have l4 : aY5 w6 G s rs (.slice A3 rs.length c3) ve tv := HS.out.new l5;rw [<- l8];have C8 := l5.size;have q9 : E0 < w6.heap.size := g6.lt;have r9 : G < w6.heap.size := l4.blk.lt;have C7 := a9.size;have t7 : ∀ W : World, W.heap[G]? = w6.heap[G]? -> W.heap[E0]? = w6.heap[E0]? -> W.cell? ⟨G, 3, none⟩ = some (.slice A3 rs.length c3) ∧ W.cell? ⟨E0, 0, none⟩ = some (.int .i64 (ix + 1)) ∧ W.cell? ⟨E0, 1, none⟩ = some (.int .i64 t) ∧ W.cell? ⟨E0, 2, none⟩ = some (.int .i64 k) ∧ W.cell? ⟨E0, 3, none⟩ = some (.slice (some ⟨gd, 0, none⟩) tx.length cd) ∧ True := fun W h1 h2 =>
   ⟨(World.cell?_of_block (w := w6) h1).trans (l4.blk.cell 3), (World.cell?_of_block (w := w6) h2).trans (g6.cell 0), (World.cell?_of_block (w := w6) h2).trans (g6.cell 1), (World.cell?_of_block (w := w6) h2).trans (g6.cell 2), (World.cell?_of_block (w := w6) h2).trans (g6.cell 3), trivial⟩
  have i2 := qZ t7;have B8 := qZ l4;have p7 := qZ x5;have B4 := qZ l5;clear l8 g6 a9 l5 x5 l4 t7 f0 f3 z0 z3 C2 p9 HD;refine aD4 10 rfl (S := fun W => W.cell? ⟨G, 3, none⟩ = some (.slice A3 rs.length c3) ∧ W.cell? ⟨E0, 0, none⟩ = some (.int .i64 (ix + 1)) ∧ W.cell? ⟨E0, 1, none⟩ = some (.int .i64 t) ∧ W.cell? ⟨E0, 2, none⟩ = some (.int .i64 k) ∧ W.cell? ⟨E0, 3, none⟩ = some (.slice (some ⟨gd, 0, none⟩) tx.length cd) ∧ True) (i2.out _ rfl rfl) (fun hHeld => ?_);refine zU6 0 (k := ?_);refine zU6 1 (k := ?_);refine zU6 2 (k := ?_);refine zU6 3 (k := ?_);refine zU6 4 (k := ?_);refine zU6 5 (k := ?_);simp only [zA, zB, zF, zG, zC, zD, zE];refine zW 6 (k := fun K hK => ?_);simp only [zA, zB];go_simp;obtain ⟨w7, l9⟩ : ∃ w7, w7 = (w6.alloc (.cells [Value.int .i64 (ix + 1), Value.int .i64 t, Value.int .i64 k, Value.slice (some ⟨gd, 0, none⟩) tx.length cd].toArray 65)).drew := ⟨_, rfl⟩
  have e9 : Below w6.heap.size w6 w7 := by rw [l9]; exact aA4 ((lS _ w6).alloc (lR _) _) 1
  have x4 : ∀ j u, [Value.int .i64 (ix + 1), Value.int .i64 t, Value.int .i64 k, Value.slice (some ⟨gd, 0, none⟩) tx.length cd][j]? = some u -> w7.cell? ((⟨w6.heap.size, 0, none⟩ : Addr).add j) = some u := by
   rw [l9];obtain ⟨ad, e1, _, h2⟩ := aG4 w6 65 [Value.int .i64 (ix + 1), Value.int .i64 t, Value.int .i64 k, Value.slice (some ⟨gd, 0, none⟩) tx.length cd] (by simp);injection e1 with e1
   subst e1;exact h2
  have s9 : aY5 w7 G s rs (.slice A3 rs.length c3) ve tv := B8.out.new e9;have x6 : bD9 w7 (G + 1) (.slice (some ⟨gd, 0, none⟩) tx.length cd) tx := p7.out.keep fun q hq => e9.block q (p7.out.lt q hq).2
  have E3 := e9.size;refine hK _ _ (i2.out _ ((Below.alloc (lS _ w6) (lR _) _).block G r9) ((Below.alloc (lS _ w6) (lR _) _).block E0 q9)) (fun hHeld => ?_);clear hK K;rw [show (w6.alloc (.cells #[Value.int .i64 (ix + 1), Value.int .i64 t, Value.int .i64 k, Value.slice (some ⟨gd, 0, none⟩) tx.length cd] 65)).drew = w7 from l9.symm] at hHeld ⊢;have a8 := qZ (And.intro (e9.block G r9) (e9.block E0 q9));have B5 := qZ (B4.out.trans (e9.mono C8));have m5 := qZ s9;have B7 := qZ x6;have B6 := qZ x4;clear l9 e9 x4 s9 x6;try simp only [zF, zG, zC, zD, zE]
  refine zW 7 (k := fun K hK => ?_);simp only [zA, zB];rw [if_pos (by rfl)];refine aN3 (.tmp 59) (.tmp 61) 40 rfl (G + 1) 65 (.agg #[.int .i64 0, .int .i64 0, .int .i64 0, .slice none 0 0]) 4 48 Tryz.underlying40 aI8 rfl (by decide) _ rs.length (aA7 rs) rfl m5.out.ents ⟨w6.heap.size, 0, none⟩ 1 1 _ rfl rfl B6.out (by simp [Value.oneCell']) (by unfold maxLen; omega) (by omega) (by omega) ?_;intro v' w8 f7 g8 C3;obtain ⟨A8, c8, D1, _⟩ := aC2 f7;subst D1;have n9 : (Value.slice A3 rs.length c3).ownBlock ≠ some G := fun e => by have := (World.ownsRow.lt HS.out.ents G e).1; omega
  have n8 : (Value.slice A3 rs.length c3).ownBlock ≠ some E0 := fun e => by have := (World.ownsRow.lt HS.out.ents E0 e).2; omega
  have k8 : w8.heap[G]? = w7.heap[G]? := g8.block G (by omega) (fun e => n9 e.symm);have p0 : w8.heap[E0]? = w7.heap[E0]? := g8.block E0 (by omega) (fun e => n8 e.symm);have E5 := g8.size;refine hK _ _ (i2.out _ (k8.trans a8.out.1) (p0.trans a8.out.2)) (fun hHeld => ?_);clear hK K;have m8 : Blk w8 G 106 _ := Eq.trans k8 m5.out.blk;have g3 : w8.cell? ⟨G, 3, none⟩ = some (.slice A3 rs.length c3) := m8.cell 3;have gz : w8.frozen? ⟨G, 3, none⟩ = false := m8.frozen _;have hP := m5.out.push (q := ⟨.slice (some ⟨gd, 0, none⟩) tx.length cd, ⟨ix + 1, t, k, tx⟩⟩) B7.out f7 g8;have t9 : Below G w (w8.setCell ⟨G, 3, none⟩ (.slice A8 (rs.length + 1) c8)) := ((B5.out.mono (by omega : G <= w.heap.size)).grown g8 (by omega) (fun j hj => by have := (World.ownsRow.lt HS.out.ents j hj).1; omega)).grown (aA0 w8 G 3 _) (by omega) (fun j hj => by injection hj with hj; omega);have HP := qZ (And.intro hP t9);have j8 := qZ (And.intro (k8.trans a8.out.1) (p0.trans a8.out.2));clear f7 g8 C3 k8 p0 hP t9;try simp only [zF, zG, zC, zD, zE]
  refine zW 8 (k := fun K hK => ?_);simp only [zA, zB];go_simp;refine hK _ _ (i2.out _ j8.out.1 j8.out.2) (fun hHeld => ?_);clear hK K;try simp only [zF, zG, zC, zD, zE]
  refine zW 9 (k := fun K hK => ?_);simp only [zA, zB];go_simp;refine hK _ _ (i2.out _ j8.out.1 j8.out.2) (fun hHeld => ?_);clear hK K;try simp only [zF, zG, zC, zD, zE]
  refine aH0 (t := 10) (by simp) (by kernel_rfl) (by kernel_rfl) (fun K hK => ?_);simp only [zA, zB];go_simp;refine hK _ _ ?_;clear hK K hHeld g3 gz m8;generalize (w8.setCell ⟨G, 3, none⟩ (.slice A8 (rs.length + 1) c8)) = w9 at HP ⊢
  go_wp2_with fail
  go_ret
  refine ⟨by rw [m3.out]; rfl, HP.out.2, (fun h => by rw [m3.out] at h; cases h), fun q hq => ?_⟩;rw [m3.out] at hq;injection hq with hq
  subst hq;exact ⟨_, _, HP.out.1⟩
end
section
open Oct
theorem cA2 (b : List UInt8) : ∀ f a, a <= b.length -> (bD3 b f a).1.length <= b.length - a ∧ ∀ p ∈ (bD3 b f a).1, p.length <= 1048576
 | 0, a, _ => by simp [bD3]
 | f + 1, a, ha => by
  unfold bD3;split
  ·simp
  split
  ·rename_i h1 h2
   obtain ⟨h3, h4, h5, _⟩ := aW3 h2;rw [lZ] at h5;obtain ⟨h6, h7⟩ := cA2 b f (a + (aD7 (b.drop a)).2.1) (by omega);refine ⟨by simp only [mC]; omega, fun p hp => ?_⟩;rcases List.mem_cons.1 hp with rfl | hp
   ·exact h3
   exact h7 p hp
  simp
theorem bM4 (b : List UInt8) : (aH6 b).1.length <= b.length ∧ ∀ p ∈ (aH6 b).1, p.length <= 1048576 := by
 have := cA2 b (b.length + 1) 0 (by omega);exact ⟨by have := this.1; unfold aH6; omega, this.2⟩
theorem aF3 {p : List UInt8} (h : p.length <= 1048576) : (aF2 p).length <= 1048600 := by
 rw [bW6 (by omega), lT, lT, Crc.four_length];have := aM0 p.length (by omega);omega
structure RdI (k : Int) (b : List UInt8) (i : Nat) (s : aB1) (a : Int) : Prop where
 zero : i = 0 -> s = ⟨k, 0, 0, [], []⟩ ∧ a = 0
 more : 0 < i -> aD0 k b = (aK2 ((aH6 b).1.drop i) a s).map fun s => (s, decide ((aH6 b).2.2 ≠ 0))
 key : s.k = k
 first : 0 <= s.first ∧ s.first <= 9223372036854775806
 last : -1 <= s.last.1
 at_ : 0 <= a ∧ a <= 1048600 * i
 len : s.ends.length = i ∧ s.l.length <= i
theorem RdI.start (k : Int) (b : List UInt8) : RdI k b 0 ⟨k, 0, 0, [], []⟩ 0 :=
 ⟨fun _ => ⟨rfl, rfl⟩, fun h => absurd h (by omega), rfl, ⟨Int.le_refl 0, by show (0 : Int) <= _; omega⟩, by show (-1 : Int) <= 0 - 1; omega, ⟨by omega, by omega⟩, rfl, lR _⟩
theorem bN2 {p : List UInt8} {f t : Int} (h : aK1 p = some (f, t)) : 1 <= f ∧ f <= 9223372036854775806 := by
 unfold aK1 at h;split at h
 ·cases h
 rename_i h1
 have hm : (aB9 maxI p).1 <= 9223372036854775807 := bB4 maxI p;unfold aD6 at h1;split at h
 ·injection h with h
  injection h with h _
  omega
 cases h
theorem bN1 {p : List UInt8} {a : Int} {q : aF9} (h : aH9 p a = some q) : q.ix = a + 1 := by
 unfold aH9 at h;split at h
 ·split at h
  ·cases h
  injection h with h
  rw [<- h]
 cases h
section
variable {k : Int} {b : List UInt8} {i : Nat} {s : aB1} {a : Int}
theorem RdI.head {p : List UInt8} {f t : Int} (h : RdI k b 0 s a) (hp : (aH6 b).1[0]? = some p) (a7 : p.length <= 1048576) (ht : aK1 p = some (f, t)) : RdI k b 1 ⟨k, f, t, [], [((aF2 p).length : Int)]⟩ ((aF2 p).length : Int) := by
 have hf := bN2 ht;have hl := aF3 a7;refine ⟨fun h => by omega, fun _ => ?_, rfl, ⟨by show (0 : Int) <= f; omega, hf.2⟩, by show (-1 : Int) <= f - 1; omega, ⟨by omega, by omega⟩, rfl, by simp⟩;unfold aD0;cases hr : (aH6 b).1 with
 | nil => rw [hr] at hp; simp at hp
 | cons x r =>
  rw [hr] at hp;injection hp with hp
  subst hp;simp only [ht]
  rfl
theorem RdI.headBad {p : List UInt8} (hp : (aH6 b).1[0]? = some p) (ht : aK1 p = none) : aD0 k b = none := by
 unfold aD0;cases hr : (aH6 b).1 with
 | nil => rw [hr] at hp; simp at hp
 | cons x r =>
  rw [hr] at hp;injection hp with hp
  subst hp;simp only [ht]
theorem cS2 {α : Type} {l : List α} {i : Nat} {x : α} (h : l[i]? = some x) : l.drop i = x :: l.drop (i + 1) := by
 obtain ⟨h1, h2⟩ := List.getElem?_eq_some_iff.1 h;rw [List.drop_eq_getElem_cons h1, h2]
theorem RdI.entry {p : List UInt8} {q : aF9} (h : RdI k b i s a) (hi : 0 < i) (hp : (aH6 b).1[i]? = some p) (a7 : p.length <= 1048576) (ht : aH9 p s.last.1 = some q) :
  RdI k b (i + 1) { s with l := s.l ++ [q], ends := s.ends ++ [a + (aF2 p).length] } (a + (aF2 p).length) := by
 have hl := aF3 a7;have a8 := bN1 ht;have a9 := h.last;refine ⟨fun e => by omega, fun _ => ?_, h.key, h.first, ?_, ⟨by have := h.at_.1; omega, by have := h.at_.2; omega⟩, by rw [lT, h.len.1]; rfl, by rw [lT]; have := h.len.2; simp; omega⟩
 ·rw [h.more hi, cS2 hp, aK2, ht]
 unfold aB1.last;simp
 omega
theorem RdI.entryBad {p : List UInt8} (h : RdI k b i s a) (hi : 0 < i) (hp : (aH6 b).1[i]? = some p) (ht : aH9 p s.last.1 = none) : aD0 k b = none := by
 rw [h.more hi, cS2 hp, aK2, ht]
 rfl
theorem RdI.done (h : RdI k b i s a) (hi : i = (aH6 b).1.length) : aD0 k b = some (s, decide ((aH6 b).2.2 ≠ 0)) := by
 rcases Nat.eq_zero_or_pos i with h0 | h0
 ·obtain ⟨h1, h2⟩ := h.zero h0
  unfold aD0;rw [mD (by omega : (aH6 b).1.length = 0), h1]
 rw [h.more h0, List.drop_of_length_le (by omega)]
 rfl
end
end
section
open Go.RowKit Oct
theorem cA5 (s : ByteArray) : s.size = s.data.toList.length := by rw [Array.length_toList]; rfl
theorem bY4 (c : UInt8) (r : List UInt8) : bH8 (c :: r) = if r.length < 1 ∨ 9 < r.length ∨ c ≠ 106 then 0 else if (aF5 r).2.2 ≠ 0 ∨ (aF5 r).2.1 ≠ (r.length : Int) then 0 else (aF5 r).1 := rfl
theorem cE6 (s : ByteArray) (hs : s.size <= 140737488351232) (w : World) (hE : dA1 w) :
  Calls Tryz.prog 98 #[.string s] w fun e w' => e = .returned (.int .i64 (bH8 s.data.toList)) ∧ Below w.heap.size w w' := by
 have HE := qZ hE;clear hE;obtain ⟨R, hR⟩ : ∃ R, R = bH8 s.data.toList := ⟨_, rfl⟩
 rw [<- hR];by_cases a7 : s.size < 2 ∨ 10 < s.size
 ·have h0 : R = 0 := by
   rw [hR];have hz := cA5 s;rcases hd : s.data.toList with _ | ⟨c, r⟩
   ·rfl
   rw [hd, mC] at hz;rw [bY4, if_pos (by omega)]
  subst h0;clear hR;go_enter Tryz.func98, Tryz.ntmps98
  rcases a7 with a7 | a7
  ·go_wp2_with fail
   go_ret
   exact ⟨rfl, lS _ _⟩
  go_wp2_with fail
  go_ret
  exact ⟨rfl, lS _ _⟩
 have i6 : 2 <= s.size := by omega
 have i4 : s.size <= 10 := by omega
 clear a7;obtain ⟨ch, r, a9⟩ : ∃ ch r, s.data.toList = ch :: r := by
  rcases e : s.data.toList with _ | ⟨a, b⟩
  ·exfalso
   have hz := cA5 s;rw [e, List.length_nil] at hz;omega
  exact ⟨a, b, rfl⟩
 have i2 : s.size = r.length + 1 := by
  show s.data.size = _
  rw [<- Array.length_toList, a9, mC]
 have d8 : (s.extract 1 s.size).data.toList = r := by
  rw [ByteArray.data_extract, Array.toList_extract, a9, i2];simp
 have e9 : 0 < s.size := by omega
 have i1 : s[0]'(e9) = ch := by
  have : s.data.toList[0]'(by rw [a9]; simp) = ch := by simp [a9]
  rw [Array.getElem_toList] at this;exact this
 have i3 : (s.extract 1 s.size).size <= 140737488351232 := by
  show (s.extract 1 s.size).data.size <= _
  rw [<- Array.length_toList, d8];omega
 have b8 := qZ (cX4 (s.extract 1 s.size) i3 w HE.out);rw [d8] at b8;have hJ : R = if ch ≠ 106 then 0 else if (aF5 r).2.2 ≠ 0 ∨ (aF5 r).2.1 ≠ (r.length : Int) then 0 else (aF5 r).1 := by
  rw [hR, a9, bY4];by_cases hc : ch = 106
  ·rw [if_neg (show ¬ (r.length < 1 ∨ 9 < r.length ∨ ch ≠ 106) from by rintro (h | h | h); omega; omega; exact h hc), if_neg (show ¬ ch ≠ 106 from fun h => h hc)]
  rw [if_pos (show (r.length < 1 ∨ 9 < r.length ∨ ch ≠ 106) from .inr (.inr hc)), if_pos (show ch ≠ 106 from hc)]
 obtain ⟨pn, g8⟩ : ∃ pn, pn = (aF5 r).1 := ⟨_, rfl⟩
 obtain ⟨pu, g9⟩ : ∃ pn, pn = (aF5 r).2.1 := ⟨_, rfl⟩
 obtain ⟨pe, g7⟩ : ∃ pn, pn = (aF5 r).2.2 := ⟨_, rfl⟩
 rw [<- g8, <- g9, <- g7] at b8 hJ;have HJ := qZ hJ;have f8 := qZ (show (r.length : Int) = (s.size : Int) - 1 by omega);have g6 : (s[0].toNat : Int) = 106 ↔ ch = 106 := by
  rw [i1];constructor
  ·intro e
   refine UInt8.toNat_inj.1 ?_;show ch.toNat = 106
   omega
  rintro rfl
  rfl
 have f7 := qZ g6;clear hR a9 d8 i3 g8 g9 g7 i1 i2 hJ g6;go_enter Tryz.func98, Tryz.ntmps98
 by_cases h1 : (s[0].toNat : Int) = 106
 rotate_left
 ·have HC := qZ (fun e => h1 (f7.out.2 e))
  have j6 : ((s[0].toNat : Int) != 106) = true := bne_iff_ne.2 h1;have a8 : R = 0 := by rw [HJ.out, if_pos (show ch ≠ 106 from HC.out)]
  clear HJ;subst a8;go_wp2_with fail
  go_ret
  exact ⟨rfl, lS _ _⟩
 have HC := qZ (f7.out.1 h1);go_wp2_with fail
 refine b8.out.mono ?_;rintro e w2 ⟨rfl, f9⟩;have HB := qZ f9;clear f9 b8;by_cases h2 : pe = 0
 ·subst h2
  by_cases h3 : (pu : Int) = (s.size : Int) - 1
  ·have H3 := qZ h3
   have a8 : R = pn := by rw [HJ.out, if_neg (show ¬ ch ≠ 106 from fun h => h HC.out), if_neg (show ¬ ((0 : Int) ≠ 0 ∨ (pu : Int) ≠ (r.length : Int)) from by rintro (h | h); exact h rfl; exact h (by rw [f8.out]; exact H3.out))]
   clear HJ;subst a8;go_wp2_with fail
   go_ret
   exact ⟨rfl, HB.out⟩
  have H3 := qZ h3;have a8 : R = 0 := by rw [HJ.out, if_neg (show ¬ ch ≠ 106 from fun h => h HC.out), if_pos (show ((0 : Int) ≠ 0 ∨ (pu : Int) ≠ (r.length : Int)) from .inr (by rw [f8.out]; exact H3.out))]
  clear HJ;subst a8;go_wp2_with fail
  go_ret
  exact ⟨rfl, HB.out⟩
 have H2 := qZ h2;have a8 : R = 0 := by rw [HJ.out, if_neg (show ¬ ch ≠ 106 from fun h => h HC.out), if_pos (show (pe ≠ 0 ∨ (pu : Int) ≠ (r.length : Int)) from .inl H2.out)]
 clear HJ;subst a8;go_wp2_with fail
 go_ret
 exact ⟨rfl, HB.out⟩
end
section
open Go.RowKit Oct
theorem aV7 : (Tryz.prog.info? 108).map (fun i => (i.zero, i.size, i.bytes)) = some (some (.pointer none), 1, 8) := by kernel_rfl
theorem bM3 (w : World) (e : TypeId) (size : Nat) : (w.alloc (.cells #[] e)).ownsRow w.heap.size e size (.slice (some ⟨w.heap.size, 0, none⟩) 0 0) 0 [] :=
 ⟨by simp, .inr ⟨w.heap.size, 0, #[], rfl, lR _, by show (w.heap.push _)[w.heap.size]? = _; simp, lR _, Nat.zero_le _, by simp, by simp⟩⟩
theorem bU8 {w : World} {B : Nat} {ad : Addr} {xs : List Value} (h : Rd w B (some ad) xs) (hn : 0 < xs.length) : ∀ j u, xs[j]? = some u -> w.cell? (ad.add j) = some u := by
 obtain ⟨a7, e, _, hc⟩ := h hn;injection e with e
 subst e;exact hc
theorem aT5 {P : Program} (w : World) (base : Nat) (t ty e : TypeId) (i : TypeInfo) (size : Nat) (ht : P.underlying t = some (.slice e)) (hi : P.info? e = some i)
  (v : Value) (n : Nat) (xs : List Value) (a7 : w.ownsRow base e size v n xs) (A : Option Addr) (c : Nat) :
  (Builtin.append_ #[t, t] ty #[v, .slice A 0 c]).run P w = .ok v w := by
 rcases a7.2 with ⟨rfl, rfl⟩ | ⟨g, cap, a9, rfl, _, _, a8, _⟩
 ·cases A <;> simp [Builtin.append_, run_underlying ht, sizeOf, typeInfo, hi, Builtin.lenOf, Builtin.firstCells, loadCells, loadCellsFrom]
 cases A <;> simp [Builtin.append_, run_underlying ht, sizeOf, typeInfo, hi, Builtin.lenOf, Builtin.firstCells, a8, storeCells, loadCells, loadCellsFrom]
theorem bG4 {P : Program} {w : World} {o : Oper} {a : Act} {K : Act -> World -> Prop} {Q : Exit -> Act -> World -> Prop} (s x : Operand) (t : TypeId)
  (ho : o.op = .call { callee := .builtin .append, args := #[s, x], argTypes := #[t, t] })
  (base : Nat) (e : TypeId) (z : Value) (size bytes : Nat) (ht : P.underlying t = some (.slice e)) (a8 : (P.info? e).map (fun i => (i.zero, i.size, i.bytes)) = some (some z, size, bytes)) (g7 : z.cells.size = size) (g6 : 0 < size)
  (D : Option Addr) (hs : a.eval s = .slice D 0 0) (d8 : w.ownsRow base e size (.slice D 0 0) 0 [])
  (A : Option Addr) (m c : Nat) (news : List Value) (hx : a.eval x = .slice A m c) (hl : news.length = m * size) (b8 : 0 < m -> ∃ ad, A = some ad ∧ ∀ j u, news[j]? = some u -> w.cell? (ad.add j) = some u) (h1 : ∀ u ∈ news, u.oneCell' = true)
  (f7 : m <= maxLen) (a7 : m * bytes <= 140737488355328) (f8 : base <= w.heap.size)
  (h : ∀ v' w', w'.ownsRow base e size v' m news -> Below w.heap.size w w' -> K (a.put o.dst v') w') : o.wp P a w K Q := by
 obtain ⟨i, hi, hz, e9, g9⟩ := info_parts a8;rcases Nat.eq_zero_or_pos m with hm | hm
 ·subst hm
  have hn : news = [] := mD (by simpa using hl);subst hn;have a9 := aT5 (P := P) w base t o.type e i size ht hi _ 0 [] d8 A c;unfold Oper.wp execOp;simp only [ho, resolve, invoke, builtin, Sem.run_bind, Sem.run_pure, Result.andThen_ok, List.map_toArray, mG, List.map_nil, hs, hx, a9];exact h _ _ d8 (lS _ _)
 obtain ⟨ad, rfl, hc⟩ := b8 hm;have f9 : D = none -> (0 : Nat) = 0 ∧ (0 : Nat) = 0 := fun _ => ⟨rfl, rfl⟩
 have key : ∀ v' w', w'.ownsRow w.heap.size e size v' (0 + m) ([] ++ news) -> w.grownBy w' none -> K (a.put o.dst v') w' := fun v' w' h2 h3 => by
  rw [Nat.zero_add, List.nil_append] at h2;refine h v' w' ⟨h2.1, ?_⟩ (aG5 h3);rcases h2.2 with h4 | ⟨g, cap, g8, hv, i1, r⟩
  ·exact .inl h4
  exact .inr ⟨g, cap, g8, hv, by omega, r⟩
 cases D with
 | some b =>
  obtain ⟨v', w', a9, r1, r2⟩ := run_append_arg_grows (P := P) w t o.type e i z size bytes ht hi hz e9 g9 g7 g6 b 0 0 [] (by simp) (fun j u hj => by simp at hj) ad m c news hl hc (by omega) (by rw [Nat.zero_add]; exact f7) (by rw [Nat.zero_add]; exact a7);unfold Oper.wp execOp;simp only [ho, resolve, invoke, builtin, Sem.run_bind, Sem.run_pure, Result.andThen_ok, List.map_toArray, mG, List.map_nil, hs, hx, a9];exact key _ _ r1 r2
 | none =>
  exact aN3 s x t ho w.heap.size e z size bytes ht a8 g7 g6 (.slice none 0 0) 0 [] hs (World.ownsRow_nil _ _ _ _) ad m c news hx hl hc h1 (by rw [Nat.zero_add]; exact f7) (by rw [Nat.zero_add]; exact a7) (lR _) fun v' w' h2 h3 _ => key v' w' h2 h3
theorem aK8 {P : Program} {w : World} {ops : Array Oper} {rest : List Oper} {o : Oper} {a : Act} {Q : Exit -> Act -> World -> Prop} (hgd : o.guard = none) (s x : Operand) (t : TypeId)
  (ho : o.op = .call { callee := .builtin .append, args := #[s, x], argTypes := #[t, t] })
  (base : Nat) (e : TypeId) (z : Value) (size bytes : Nat) (ht : P.underlying t = some (.slice e)) (hinfo : (P.info? e).map (fun i => (i.zero, i.size, i.bytes)) = some (some z, size, bytes)) (hzs : z.cells.size = size) (hsz : 0 < size)
  (D : Option Addr) (hs : a.eval s = .slice D 0 0) (hown : w.ownsRow base e size (.slice D 0 0) 0 [])
  (A : Option Addr) (m c : Nat) (news : List Value) (hx : a.eval x = .slice A m c) (hl : news.length = m * size) (hnews : 0 < m -> ∃ ad, A = some ad ∧ ∀ j u, news[j]? = some u -> w.cell? (ad.add j) = some u) (h1 : ∀ u ∈ news, u.oneCell' = true)
  (h63 : m <= maxLen) (hbytes : m * bytes <= 140737488355328) (hbase : base <= w.heap.size)
  (h : ∀ v' w', w'.ownsRow base e size v' m news -> Below w.heap.size w w' -> wpList P ops Q rest (a.put o.dst v') w') : wpList P ops Q (o :: rest) a w :=
 wpList_plain hgd fun _ hK => bG4 s x t ho base e z size bytes ht hinfo hzs hsz D hs hown A m c news hx hl hnews h1 h63 hbytes hbase fun v' w' h2 h3 => hK _ _ (h v' w' h2 h3)
theorem bK4 (A : Option Addr) (n c : Nat) (xs : List Value) (w : World) (hr : Rd w w.heap.size A xs) (hx : xs.length = n * 4) (h1 : ∀ u ∈ xs, u.oneCell' = true) (hn : n <= 1099511627776) :
  Calls Tryz.prog 113 #[.slice A n c] w fun e w' => ∃ v, e = .returned v ∧ w'.ownsRow w.heap.size 65 4 v n xs ∧ Below w.heap.size w w' := by
 have HR := qZ hr;have HX := qZ hx;cases A with
 | none =>
  have h0 : xs = [] := by
   refine Classical.byContradiction fun h => ?_
   obtain ⟨ad, h1, _⟩ := hr (List.length_pos_iff.2 h);cases h1
  subst h0;obtain rfl : n = 0 := by simp at hx; omega
  clear hr hx;have he : ∀ W : World, (binOp .eql 40 (.slice none 0 c) (.slice none 0 0)).run Tryz.prog W = .ok (.bool true) W := fun _ => rfl
  go_enter Tryz.func113, Tryz.ntmps113
  go_wp2_with fail
  go_ret
  exact ⟨_, rfl, World.ownsRow_nil _ _ _ _, lS _ _⟩
 | some ad =>
  have he : ∀ W : World, (binOp .eql 40 (.slice (some ad) n c) (.slice none 0 0)).run Tryz.prog W = .ok (.bool false) W := fun _ => rfl
  have a7 : Below w.heap.size w (w.alloc (.cells #[] 65)) := (lS _ w).alloc (lR _) _;have HB := qZ a7;have HO := qZ (bM3 w 65 4);have b8 := qZ (hr.below a7);clear hr hx a7;go_enter Tryz.func113, Tryz.ntmps113
  go_wp2_with (at_builtin; refine aK8 rfl (.tmp 5) (.tmp 6) 40 rfl w.heap.size 65 (.agg #[.int .i64 0, .int .i64 0, .int .i64 0, .slice none 0 0]) 4 48 Tryz.underlying40 aI8 rfl (by decide) (some ⟨w.heap.size, 0, none⟩) rfl HO.out (some ad) n c xs rfl HX.out (fun hm => ⟨ad, rfl, bU8 b8.out (by rw [HX.out]; omega)⟩) h1 (by unfold maxLen; omega) (by omega) (by simp) ?_; intro v1 w1 a8 hb; have HV := qZ a8; have a9 := qZ (HB.out.trans (hb.mono (by simp))); clear a8 hb)
  go_ret
  exact ⟨_, rfl, HV.out, a9.out⟩
theorem cE4 (A : Option Addr) (n c : Nat) (xs : List Value) (w : World) (hr : Rd w w.heap.size A xs) (hx : xs.length = n * 1) (h1 : ∀ u ∈ xs, u.oneCell' = true) (hn : n <= 1099511627776) :
  Calls Tryz.prog 114 #[.slice A n c] w fun e w' => ∃ v, e = .returned v ∧ w'.ownsRow w.heap.size 3 1 v n xs ∧ Below w.heap.size w w' := by
 have HR := qZ hr;have HX := qZ hx;cases A with
 | none =>
  have h0 : xs = [] := by
   refine Classical.byContradiction fun h => ?_
   obtain ⟨ad, h1, _⟩ := hr (List.length_pos_iff.2 h);cases h1
  subst h0;obtain rfl : n = 0 := by simp at hx; omega
  clear hr hx;have he : ∀ W : World, (binOp .eql 41 (.slice none 0 c) (.slice none 0 0)).run Tryz.prog W = .ok (.bool true) W := fun _ => rfl
  go_enter Tryz.func114, Tryz.ntmps114
  go_wp2_with fail
  go_ret
  exact ⟨_, rfl, World.ownsRow_nil _ _ _ _, lS _ _⟩
 | some ad =>
  have he : ∀ W : World, (binOp .eql 41 (.slice (some ad) n c) (.slice none 0 0)).run Tryz.prog W = .ok (.bool false) W := fun _ => rfl
  have a7 : Below w.heap.size w (w.alloc (.cells #[] 3)) := (lS _ w).alloc (lR _) _;have HB := qZ a7;have HO := qZ (bM3 w 3 1);have b8 := qZ (hr.below a7);clear hr hx a7;go_enter Tryz.func114, Tryz.ntmps114
  go_wp2_with (at_builtin; refine aK8 rfl (.tmp 5) (.tmp 6) 41 rfl w.heap.size 3 (.int .i64 0) 1 8 Tryz.underlying41 bH5 rfl (by decide) (some ⟨w.heap.size, 0, none⟩) rfl HO.out (some ad) n c xs rfl HX.out (fun hm => ⟨ad, rfl, bU8 b8.out (by rw [HX.out]; omega)⟩) h1 (by unfold maxLen; omega) (by omega) (by simp) ?_; intro v1 w1 a8 hb; have HV := qZ a8; have a9 := qZ (HB.out.trans (hb.mono (by simp))); clear a8 hb)
  go_ret
  exact ⟨_, rfl, HV.out, a9.out⟩
theorem bK5 (A : Option Addr) (n c : Nat) (xs : List Value) (w : World) (hr : Rd w w.heap.size A xs) (hx : xs.length = n * 1) (h1 : ∀ u ∈ xs, u.oneCell' = true) (hn : n <= 1099511627776) :
  Calls Tryz.prog 59 #[.slice A n c] w fun e w' => ∃ v, e = .returned v ∧ w'.ownsRow w.heap.size 108 1 v n xs ∧ Below w.heap.size w w' := by
 have HR := qZ hr;have HX := qZ hx;cases A with
 | none =>
  have h0 : xs = [] := by
   refine Classical.byContradiction fun h => ?_
   obtain ⟨ad, h1, _⟩ := hr (List.length_pos_iff.2 h);cases h1
  subst h0;obtain rfl : n = 0 := by simp at hx; omega
  clear hr hx;have he : ∀ W : World, (binOp .eql 49 (.slice none 0 c) (.slice none 0 0)).run Tryz.prog W = .ok (.bool true) W := fun _ => rfl
  go_enter Tryz.func59, Tryz.ntmps59
  go_wp2_with fail
  go_ret
  exact ⟨_, rfl, World.ownsRow_nil _ _ _ _, lS _ _⟩
 | some ad =>
  have he : ∀ W : World, (binOp .eql 49 (.slice (some ad) n c) (.slice none 0 0)).run Tryz.prog W = .ok (.bool false) W := fun _ => rfl
  have a7 : Below w.heap.size w (w.alloc (.cells #[] 108)) := (lS _ w).alloc (lR _) _;have HB := qZ a7;have HO := qZ (bM3 w 108 1);have b8 := qZ (hr.below a7);clear hr hx a7;go_enter Tryz.func59, Tryz.ntmps59
  go_wp2_with (at_builtin; refine aK8 rfl (.tmp 5) (.tmp 6) 49 rfl w.heap.size 108 (.pointer none) 1 8 Tryz.underlying49 aV7 rfl (by decide) (some ⟨w.heap.size, 0, none⟩) rfl HO.out (some ad) n c xs rfl HX.out (fun hm => ⟨ad, rfl, bU8 b8.out (by rw [HX.out]; omega)⟩) h1 (by unfold maxLen; omega) (by omega) (by simp) ?_; intro v1 w1 a8 hb; have HV := qZ a8; have a9 := qZ (HB.out.trans (hb.mono (by simp))); clear a8 hb)
  go_ret
  exact ⟨_, rfl, HV.out, a9.out⟩
end
section
open Oct
theorem cI9 : ∀ (l : List UInt8) (n : Nat), (∀ c ∈ l, isD c = true) -> l.foldl dv n + 1 <= (n + 1) * 10 ^ l.length
 | [], n, _ => by simp
 | c :: r, n, h => by
  have hc : c.toNat <= 57 := by
   have := h c List.mem_cons_self;unfold isD at this;simp at this
   exact this.2
  have ih := cI9 r (dv n c) fun x hx => h x (List.mem_cons_of_mem _ hx)
  have h1 : dv n c + 1 <= (n + 1) * 10 := by unfold dv; omega
  rw [List.foldl_cons, mC, Nat.pow_succ];refine Nat.le_trans ih ?_;rw [show (n + 1) * (10 ^ r.length * 10) = ((n + 1) * 10) * 10 ^ r.length by rw [Nat.mul_comm (10 ^ r.length) 10, Nat.mul_assoc]];exact Nat.mul_le_mul_right _ h1
theorem dH3 {p : UInt8 -> Bool} : ∀ {l : List UInt8} {c : UInt8}, c ∈ l.takeWhile p -> p c = true
 | [], c, h => by cases h
 | a :: r, c, h => by
  rw [List.takeWhile_cons] at h;split at h
  ·rename_i h1
   rcases List.mem_cons.1 h with h2 | h2
   ·rw [h2]; exact h1
   exact dH3 h2
  cases h
theorem bQ0 (n : Nm) : 0 <= bH8 n ∧ bH8 n <= 999999999 := by
 unfold bH8;split
 ·omega
 rename_i c r
 split
 ·omega
 rename_i h1
 split
 ·omega
 rename_i h2
 unfold aF5;split
 ·omega
 split
 ·omega
 split
 ·omega
 have hl : (aX8 r).length <= r.length := by
  unfold aX8;exact (List.takeWhile_sublist _).length_le
 have h3 := cI9 (aX8 r) 0 fun c hc => dH3 hc
 have h4 : 10 ^ (aX8 r).length <= 10 ^ 9 := Nat.pow_le_pow_right (by omega) (by omega);simp only at h3 h4 ⊢;unfold valD;omega
theorem aS3 : ∀ (n : Nat) (b : List UInt8) (vals : List Int) (r : List UInt8), aD9 n b = (vals, some r) -> ∀ v ∈ vals, 0 <= v ∧ v <= 9223372036854775807
 | 0, b, vals, r, h => by
  injection h with h _
  subst h;intro v hv;cases hv
 | n + 1, b, vals, r, h => by
  unfold aD9 at h;split at h
  ·injection h with _ h
   cases h
  rename_i h1
  injection h with h2 h3
  subst h2;intro v hv;rcases List.mem_cons.1 hv with rfl | hv
  ·have hm : (aB9 maxU b).1 <= 18446744073709551615 := bB4 maxU b
   refine ⟨by omega, ?_⟩;unfold aI4;split <;> omega
  exact aS3 n _ _ r (Prod.ext rfl h3) v hv
structure bN9 (s : aB1) : Prop where
 num : bG2 s
 ends : s.ends.length = s.l.length + 1
theorem cG4 {p : List UInt8} {f t : Int} (h : aK1 p = some (f, t)) : 0 <= t ∧ t <= 9223372036854775807 := by
 unfold aK1 at h;split at h
 ·cases h
 split at h
 ·rename_i t' h1
  injection h with h
  injection h with _ h
  subst h;exact aS3 _ _ _ _ h1 _ (List.mem_singleton.2 rfl)
 cases h
theorem cP7 {p : List UInt8} {a : Int} {q : aF9} (h : aH9 p a = some q) : (0 <= q.tm ∧ q.tm <= 9223372036854775807) ∧ (0 <= q.kd ∧ q.kd <= 9223372036854775807) ∧ q.ix = a + 1 ∧ a < 9223372036854775806 := by
 unfold aH9 at h;split at h
 ·rename_i t k r h1
  split at h
  ·cases h
  rename_i h2
  injection h with h
  subst h;unfold aD6 at h2;exact ⟨aS3 _ _ _ _ h1 _ (by simp), aS3 _ _ _ _ h1 _ (by simp), rfl, by omega⟩
 cases h
theorem bG2.last {s : aB1} (h : bG2 s) : -1 <= s.last.1 ∨ (-9223372036854775808 <= s.last.1 ∧ s.last.1 <= 9223372036854775807) := by
 unfold aB1.last;split
 ·have := h.first; exact .inl (by show -1 <= s.first - 1; omega)
 rename_i e he
 exact .inr (h.ent e (List.mem_of_getLast? he)).1
theorem bM1 : ∀ (rows : List (List UInt8)) (a : Int) (s s' : aB1), aK2 rows a s = some s' -> bN9 s -> 0 <= a -> (∀ p ∈ rows, p.length <= 1048576) -> a + 1048600 * rows.length <= 4611686018427387904 -> bN9 s' ∧ s'.k = s.k ∧ s'.first = s.first
 | [], a, s, s', h, hs, _, _, _ => by
  injection h with h
  subst h;exact ⟨hs, rfl, rfl⟩
 | p :: r, a, s, s', h, hs, ha, hp, hl => by
  unfold aK2 at h;split at h
  ·cases h
  rename_i e he
  have h1 := cP7 he;have h2 := aF3 (hp p List.mem_cons_self);rw [mC] at hl;have h4 := hs.num.last;have hok : bN9 { s with l := s.l ++ [e], ends := s.ends ++ [a + (aF2 p).length] } := by
   refine ⟨⟨hs.num.k, hs.num.first, hs.num.term, fun x hx => ?_, fun n hn => ?_⟩, ?_⟩
   ·rcases List.mem_append.1 hx with hx | hx
    ·exact hs.num.ent x hx
    obtain rfl := List.mem_singleton.1 hx;omega
   ·rcases List.mem_append.1 hn with hn | hn
    ·exact hs.num.ends n hn
    obtain rfl := List.mem_singleton.1 hn;omega
   show (s.ends ++ [_]).length = (s.l ++ [e]).length + 1
   rw [lT, lT, hs.ends]
   rfl
  have := bM1 r _ _ _ h hok (by omega) (fun x hx => hp x (List.mem_cons_of_mem _ hx)) (by omega);exact this
theorem cO9 {k : Int} {b : List UInt8} {s : aB1} {t : Bool} (h : aD0 k b = some (s, t)) (hk : 0 <= k ∧ k <= 999999999) (hb : b.length <= 1000000000) : bG2 s ∧ s.k = k ∧ (s.ends = [] ∧ s.l = [] ∨ bN9 s ∧ 1 <= s.first) := by
 have hr := bM4 b;unfold aD0 at h;split at h
 ·injection h with h
  injection h with h _
  subst h;exact ⟨⟨by simp only; omega, by simp, by simp, by simp, by simp⟩, rfl, .inl ⟨rfl, rfl⟩⟩
 rename_i p r hpr
 split at h
 ·cases h
 rename_i f t' hd
 have h1 := bN2 hd;have h2 := cG4 hd;rw [hpr] at hr;have h3 := aF3 (hr.2 p List.mem_cons_self);rw [mC] at hr;obtain ⟨s', a8, e⟩ := Option.map_eq_some_iff.1 h;injection e with e _
 subst e;have a7 : bN9 ⟨k, f, t', [], [((aF2 p).length : Int)]⟩ := by
  refine ⟨⟨by simp only; omega, by simp only; omega, by simp only; omega, by simp, fun n hn => ?_⟩, rfl⟩;obtain rfl := List.mem_singleton.1 hn;omega
 have := bM1 r _ _ _ a8 a7 (by omega) (fun x hx => hr.2 x (List.mem_cons_of_mem _ hx)) (by have := hr.1; omega);exact ⟨this.1.num, this.2.1, .inr ⟨this.1, by rw [this.2.2]; exact h1.1⟩⟩
theorem aX9 (l : List (Nm × FD)) (q : Nm × FD) : aC6 (l ++ [q]) = (aC6 l).bind fun x => if bH8 q.1 = 0 then some x else (aD0 (bH8 q.1) q.2.b).map fun s => x ++ [s] := by
 induction l with
 | nil =>
  simp only [List.nil_append, aC6, Option.bind_some];split
  ·rfl
  cases aD0 (bH8 q.1) q.2.b <;> rfl
 | cons y r ih =>
  simp only [List.cons_append, aC6];split
  ·exact ih
  cases aD0 (bH8 y.1) y.2.b with
  | none => rfl
  | some s =>
   simp only [ih];cases aC6 r with
   | none => rfl
   | some x =>
    simp only [Option.bind_some, Option.map_some];split
    ·rfl
    cases aD0 (bH8 q.1) q.2.b <;> rfl
theorem bO3 {l r : List (Nm × FD)} (h : aC6 l = none) : aC6 (l ++ r) = none := by
 induction r generalizing l with
 | nil => rw [List.append_nil]; exact h
 | cons x r ih =>
  rw [show l ++ x :: r = (l ++ [x]) ++ r by simp];refine ih ?_;rw [aX9, h]
  rfl
theorem aQ5 : ∀ {l : List (Nm × FD)} {x : List (aB1 × Bool)}, aC6 l = some x -> (∀ q ∈ l, q.2.b.length <= 1000000000) -> x.length <= l.length ∧ ∀ y ∈ x, bG2 y.1 ∧ (1 <= y.1.k ∧ y.1.k <= 999999999) ∧ (y.1.ends = [] ∧ y.1.l = [] ∨ bN9 y.1 ∧ 1 <= y.1.first)
 | [], x, h, _ => by
  injection h with h
  subst h;exact ⟨lR _, by simp⟩
 | q :: r, x, h, hb => by
  have hbr : ∀ q ∈ r, q.2.b.length <= 1000000000 := fun y hy => hb y (List.mem_cons_of_mem _ hy)
  unfold aC6 at h;split at h
  ·have := aQ5 h hbr
   exact ⟨by rw [mC]; omega, this.2⟩
  rename_i h0
  split at h
  ·cases h
  rename_i s hs
  obtain ⟨x', hx', rfl⟩ := Option.map_eq_some_iff.1 h;have h1 := aQ5 hx' hbr;have hk := bQ0 q.1;have h2 := cO9 (t := s.2) (s := s.1) hs hk (hb q List.mem_cons_self);refine ⟨by rw [mC, mC]; omega, fun y hy => ?_⟩;rcases List.mem_cons.1 hy with rfl | hy
  ·exact ⟨h2.1, by rw [h2.2.1]; omega, h2.2.2⟩
  exact h1.2 y hy
theorem bZ2 : ∀ {l : List (aB1 × Bool)}, aK0 l = true -> l.Pairwise fun x y => x.1.k < y.1.k
 | [], _ => List.Pairwise.nil
 | [a], _ => List.pairwise_singleton _ _
 | a :: b :: r, h => by
  unfold aK0 at h;simp only [Bool.and_eq_true, decide_eq_true_eq] at h;have ih := bZ2 h.2;have h1 := List.pairwise_cons.1 ih;refine List.pairwise_cons.2 ⟨fun y hy => ?_, ih⟩;rcases List.mem_cons.1 hy with rfl | hy
  ·omega
  have := h1.1 y hy;omega
theorem bR5 {l m : List (aB1 × Bool)} (hp : l.Perm m) (hl : l.Pairwise fun x y => x.1.k <= y.1.k) (hm : m.Pairwise fun x y => x.1.k <= y.1.k) (h : aK0 m = true) : l = m := by
 have a8 := bZ2 h;have a7 : ∀ a ∈ m, ∀ b ∈ m, a.1.k = b.1.k -> a = b := by
  clear hp hl hm h;induction m with
  | nil => intro a ha; cases ha
  | cons x r ih =>
   have h1 := List.pairwise_cons.1 a8;intro a ha b hb e;rcases List.mem_cons.1 ha with ea | ea <;> rcases List.mem_cons.1 hb with eb | eb
   ·rw [ea, eb]
   ·have := h1.1 b eb; rw [ea] at e; omega
   ·have := h1.1 a ea; rw [eb] at e; omega
   exact ih h1.2 a ea b eb e
 exact List.Perm.eq_of_pairwise (le := fun x y : aB1 × Bool => x.1.k <= y.1.k) (fun a b ha hb h1 h2 => a7 a (hp.mem_iff.1 ha) b hb (by omega)) hl hm hp
theorem bQ6 {d : DkD} {l m : List (aB1 × Bool)} (hf : aC6 d.fs = some l) (hp : m.Perm l) (hm : m.Pairwise fun x y => x.1.k <= y.1.k) : aX5 d = if aK0 m = true then some m else none := by
 have hs : (l.mergeSort fun x y => decide (x.1.k <= y.1.k)).Pairwise fun x y => x.1.k <= y.1.k := by
  have := List.pairwise_mergeSort (le := fun x y : aB1 × Bool => decide (x.1.k <= y.1.k)) (fun a b c h1 h2 => by simp at *; omega) (fun a b => by simp; omega) l;exact this.imp fun h => of_decide_eq_true h
 have hq : m.Perm (l.mergeSort fun x y => decide (x.1.k <= y.1.k)) := hp.trans (List.mergeSort_perm l _).symm;unfold aX5;simp only [hf];by_cases h1 : aK0 m = true
 ·have e := bR5 hq.symm hs hm h1
  rw [e, if_pos h1]
 rw [if_neg h1, if_neg fun h2 => h1 ?_];have e := bR5 hq hm hs h2;rw [e];exact h2
end
section
open Oct
def aT1 (acc : List aB1) (s : aB1) : List aB1 := match acc.getLast? with | none => [s] | some t => if s.goesOn t = true then acc ++ [s] else [s]
theorem aL3 : ∀ (l : List aB1) (acc : List aB1) (s : aB1), aE0 acc (l ++ [s]) = aT1 (aE0 acc l) s
 | [], acc, s => rfl
 | x :: r, acc, s => by
  show aE0 (aT1 acc x) (r ++ [s]) = aT1 (aE0 (aT1 acc x) r) s
  exact aL3 r _ s
theorem bF0 (l : List aB1) : ∀ i, i <= l.length -> ∃ st, st <= i ∧ (0 < i -> st < i) ∧ aE0 [] (l.take i) = (l.take i).drop st
 | 0, _ => ⟨0, lR _, fun h => by omega, by simp [aE0]⟩
 | i + 1, hi => by
  obtain ⟨st, h1, h2, h3⟩ := bF0 l i (by omega);have hlt : i < l.length := by omega
  have htk : l.take (i + 1) = l.take i ++ [l[i]] := by
   rw [List.take_add_one, lW hlt]
   rfl
  rw [htk, aL3, h3];unfold aT1;have a7 : (l.take i ++ [l[i]]).drop i = [l[i]] := by
   rw [List.drop_append_of_le_length (by rw [lV]; omega), List.drop_eq_nil_of_le (by rw [lV]; omega)]
   rfl
  split
  ·exact ⟨i, by omega, fun _ => by omega, a7.symm⟩
  rename_i t ht
  split
  ·refine ⟨st, by omega, fun _ => by omega, ?_⟩
   rw [List.drop_append_of_le_length (by rw [lV]; omega)]
  exact ⟨i, by omega, fun _ => by omega, a7.symm⟩
theorem takeT_txt (l : List UInt8) : (aH5 l).1.length <= 65535 ∨ (aH5 l).2.2 ≠ 0 := by
 by_cases h : (aH5 l).2.2 = 0
 ·exact .inl (cQ2 h).2.2
 exact .inr h
theorem cP8 {p : List UInt8} {a : Int} {q : aF9} (h : aH9 p a = some q) : q.b.length <= 65535 := by
 unfold aH9 at h;split at h
 ·rename_i t k r h1
  split at h
  ·cases h
  rename_i h2
  injection h with h
  subst h;rcases takeT_txt r with h3 | h3
  ·exact h3
  exact absurd (.inl h3) h2
 cases h
theorem bF5 : ∀ (rows : List (List UInt8)) (a : Int) (s s' : aB1), aK2 rows a s = some s' -> (∀ e ∈ s.l, e.b.length <= 65535) -> (∀ e ∈ s'.l, e.b.length <= 65535) ∧ s'.l.length = s.l.length + rows.length
 | [], a, s, s', h, hs => by
  injection h with h
  subst h;exact ⟨hs, rfl⟩
 | p :: r, a, s, s', h, hs => by
  unfold aK2 at h;split at h
  ·cases h
  rename_i e he
  have h1 := cP8 he;have := bF5 r _ _ _ h (fun x hx => by
   rcases List.mem_append.1 hx with hx | hx
   ·exact hs x hx
   obtain rfl := List.mem_singleton.1 hx;exact h1)
  refine ⟨this.1, ?_⟩;have h2 := this.2;simp at h2
  rw [h2, mC];omega
theorem cF5 {k : Int} {b : List UInt8} {s : aB1} {t : Bool} (h : aD0 k b = some (s, t)) : (∀ e ∈ s.l, e.b.length <= 65535) ∧ s.l.length <= b.length := by
 have hr := bM4 b;unfold aD0 at h;split at h
 ·injection h with h
  injection h with h _
  subst h;exact ⟨by simp, by simp⟩
 rename_i p r hpr
 split at h
 ·cases h
 rename_i f t' hd
 rw [hpr, mC] at hr;obtain ⟨s', a7, e⟩ := Option.map_eq_some_iff.1 h;injection e with e _
 subst e;have := bF5 r _ _ _ a7 (by simp);exact ⟨this.1, by have h1 := this.2; simp at h1; omega⟩
theorem aS8 : ∀ {l : List (Nm × FD)} {x : List (aB1 × Bool)}, aC6 l = some x -> ∀ y ∈ x, (∀ e ∈ y.1.l, e.b.length <= 65535) ∧ ∃ q ∈ l, y.1.l.length <= q.2.b.length
 | [], x, h => by
  injection h with h
  subst h;simp
 | q :: r, x, h => by
  unfold aC6 at h;split at h
  ·intro y hy
   obtain ⟨h1, q', h2, h3⟩ := aS8 h y hy;exact ⟨h1, q', List.mem_cons_of_mem _ h2, h3⟩
  split at h
  ·cases h
  rename_i s hs
  obtain ⟨x', hx', rfl⟩ := Option.map_eq_some_iff.1 h;intro y hy;rcases List.mem_cons.1 hy with rfl | hy
  ·have := cF5 (s := y.1) (t := y.2) hs
   exact ⟨this.1, q, List.mem_cons_self, this.2⟩
  obtain ⟨h1, q', h2, h3⟩ := aS8 hx' y hy;exact ⟨h1, q', List.mem_cons_of_mem _ h2, h3⟩
theorem dD4 {d : DkD} {l : List (aB1 × Bool)} (h : aX5 d = some l) (hb : ∀ q ∈ d.fs, q.2.b.length <= 1000000000) : l.length <= d.fs.length ∧ (∀ y ∈ l, bG2 y.1 ∧ (1 <= y.1.k ∧ y.1.k <= 999999999) ∧ (y.1.ends = [] ∧ y.1.l = [] ∨ bN9 y.1 ∧ 1 <= y.1.first) ∧ (∀ e ∈ y.1.l, e.b.length <= 65535) ∧ y.1.l.length <= 1000000000) ∧ aK0 l = true := by
 unfold aX5 at h;split at h
 ·cases h
 rename_i l0 hl0
 split at h
 ·rename_i hok
  injection h with h
  subst h;have h1 := aQ5 hl0 hb;have h2 := aS8 hl0;refine ⟨by rw [List.length_mergeSort]; exact h1.1, fun y hy => ?_, hok⟩;have a7 : y ∈ l0 := (List.mergeSort_perm l0 _).mem_iff.1 hy;obtain ⟨h3, q, hq, h4⟩ := h2 y a7;have h5 := hb q hq;exact ⟨(h1.2 y a7).1, (h1.2 y a7).2.1, (h1.2 y a7).2.2, h3, by omega⟩
 cases h
theorem dI7 {pw : PWD} (h : pw.cut.1 = false) (ho : pw.off = false) : pw.cut.2.2.off = false := by
 unfold PWD.cut at h ⊢;split
 ·exact ho
 rename_i h1
 split
 ·exact ho
 rename_i h2
 rw [if_neg h1, if_neg h2] at h;cases h
theorem cP0 {d : DkD} {n : Nm} (h : (d.remove n).1 = 0) : (d.remove n).2.pw.off = false := by
 unfold DkD.remove at h ⊢;split
 ·rename_i h1
  rw [if_pos h1] at h;cases h
 rename_i h1
 rw [if_neg h1] at h;split
 ·rename_i h2
  rw [h2] at h;cases h
 rename_i f h2
 rw [h2] at h;simp only [DkD.whole] at h ⊢;refine dI7 ?_ (by simpa using h1);by_cases hc : d.pw.cut.1 = true
 ·rw [if_pos hc] at h
  cases h
 simpa using hc
end
section
open Go.RowKit Oct
structure aF7 where
 s : aB1
 tn : Bool
 al : Option Addr
 cl : Nat
 ae : Option Addr
 ce : Nat
 rs : List aD8
def aF7.vl (q : aF7) : Value := .slice q.al q.rs.length q.cl
def aF7.ve (q : aF7) : Value := .slice q.ae q.s.ends.length q.ce
def aF7.o (q : aF7) : aB1 × Bool := (q.s, q.tn)
instance : Inhabited aF7 := ⟨⟨⟨0, 0, 0, [], []⟩, false, none, 0, none, 0, []⟩⟩
def bA2 (q : aF7) : List Value := [.int .i64 q.s.k, .int .i64 q.s.first, .int .i64 q.s.term, q.vl, q.ve, .bool q.tn]
def aJ7 (l : List aF7) : List Value := l.flatMap bA2
theorem aW7 (l : List aF7) : (aJ7 l).length = l.length * 6 := by
 induction l with
 | nil => rfl
 | cons x r ih => unfold aJ7 at ih ⊢; rw [List.flatMap_cons, lT, ih, mC]; simp [bA2]; omega
theorem bS8 (a b : List aF7) : aJ7 (a ++ b) = aJ7 a ++ aJ7 b := by unfold aJ7; rw [List.flatMap_append]
theorem bJ5 (l : List aF7) {k : Nat} (hk : k < l.length) {j : Nat} (hj : j < 6) : (aJ7 l)[k * 6 + j]? = (bA2 l[k])[j]? := by
 induction l generalizing k with
 | nil => simp at hk
 | cons x r ih =>
  unfold aJ7 at ih ⊢;rw [List.flatMap_cons];cases k with
  | zero => rw [List.getElem?_append_left (by simp [bA2]; omega)]; simp
  | succ k =>
   rw [List.getElem?_append_right (by simp [bA2]; omega)];have : (k + 1) * 6 + j - (bA2 x).length = k * 6 + j := by simp [bA2]; omega
   rw [this, ih (by simpa using hk)]
   rfl
theorem cM7 : (Tryz.prog.info? 106).map (fun i => (i.zero, i.size, i.bytes)) = some (some (.agg #[.int .i64 0, .int .i64 0, .int .i64 0, .slice none 0 0, .slice none 0 0, .bool false]), 6, 80) := by kernel_rfl
theorem aQ9 {P : Program} {w : World} {ops : Array Oper} {rest : List Oper} {o : Oper} {a : Act} {Q : Exit -> Act -> World -> Prop} (hgd : o.guard = none) (s x : Operand) (t : TypeId)
  (ho : o.op = .call { callee := .builtin .append, args := #[s, x], argTypes := #[t, t] })
  (base : Nat) (e : TypeId) (z : Value) (size bytes : Nat) (ht : P.underlying t = some (.slice e)) (hinfo : (P.info? e).map (fun i => (i.zero, i.size, i.bytes)) = some (some z, size, bytes)) (hzs : z.cells.size = size) (hsz : 0 < size)
  (v : Value) (n : Nat) (xs : List Value) (hs : a.eval s = v) (hown : w.ownsRow base e size v n xs)
  (ad : Addr) (m c : Nat) (news : List Value) (hx : a.eval x = .slice (some ad) m c) (hl : news.length = m * size) (hnews : ∀ j u, news[j]? = some u -> w.cell? (ad.add j) = some u) (h1 : ∀ u ∈ news, u.oneCell' = true)
  (h63 : n + m <= maxLen) (hbytes : (n + m) * bytes <= 140737488355328) (hbase : base <= w.heap.size)
  (h : ∀ v' w', w'.ownsRow base e size v' (n + m) (xs ++ news) -> w.grownBy w' v.ownBlock -> aS5 v' v.ownBlock w.heap.size -> wpList P ops Q rest (a.put o.dst v') w') : wpList P ops Q (o :: rest) a w :=
 wpList_plain hgd fun _ hK => aN3 s x t ho base e z size bytes ht hinfo hzs hsz v n xs hs hown ad m c news hx hl hnews h1 h63 hbytes hbase fun v' w' h2 h3 h4 => hK _ _ (h v' w' h2 h3 h4)
theorem bK0 {w : World} {base base' : Nat} {e : TypeId} {size n : Nat} {v : Value} {xs : List Value} (h : w.ownsRow base e size v n xs) (hb : base' <= base) : w.ownsRow base' e size v n xs := by
 refine ⟨h.1, ?_⟩;rcases h.2 with h0 | ⟨g, cap, a7, h1, h2, r⟩
 ·exact .inl h0
 exact .inr ⟨g, cap, a7, h1, by omega, r⟩
theorem aL1 {w w' : World} {base : Nat} {e : TypeId} {size n : Nat} {v : Value} {xs : List Value} (h : w.ownsRow base e size v n xs) (hb : Below w.heap.size w w') : w'.ownsRow base e size v n xs := World.ownsRow.kept h (aA5 hb none) (by cases v.ownBlock <;> simp)
structure aT9 (w : World) (B : Nat) (q : aF7) : Prop where
 ents : w.ownsRow B 65 4 q.vl q.rs.length (aA7 q.rs)
 map : q.rs.map aD8.e = q.s.l
 dat : ∀ x ∈ q.rs, bD9 w B x.v x.e.b
 ends : Own w B 3 q.ve (q.s.ends.map (Value.int .i64))
section
variable {w w' : World} {B : Nat} {q : aF7}
theorem aT9.below (h : aT9 w B q) (hb : Below w.heap.size w w') : aT9 w' B q :=
 ⟨World.ownsRow.kept h.ents (aA5 hb none) (by cases q.vl.ownBlock <;> simp), h.map, fun x hx => (h.dat x hx).keep fun k hk => hb.block k ((h.dat x hx).lt k hk).2, Own.below h.ends hb (lR _)⟩
theorem aT9.mono (h : aT9 w B q) {B' : Nat} (hb : B' <= B) : aT9 w B' q := ⟨bK0 h.ents hb, h.map, fun x hx => (h.dat x hx).mono hb, Own.mono h.ends hb⟩
theorem aT9.grown (h : aT9 w B q) {base n : Nat} {v : Value} {xs : List Value} (hown : w.ownsRow base 106 6 v n xs) (hg : w.grownBy w' v.ownBlock) : aT9 w' B q :=
 ⟨World.ownsRow.kept h.ents hg (jrow_type_ne h.ents hown (by decide)), h.map, fun x hx => (h.dat x hx).keep fun k hk => hg.block k ((h.dat x hx).lt k hk).2 (fun e => by
  obtain ⟨g, cs, fz, e1, hc⟩ := (h.dat x hx).held;rw [hk] at e1;injection e1 with e1
  subst e1;obtain ⟨cs', hc'⟩ := aD1 hown e.symm;rw [hc] at hc';injection hc' with hc'
  injection hc' with _ h _
  exact absurd h (by decide)), Own.kept h.ends hg (jrow_type_ne h.ends hown (by decide))⟩
theorem aT9.of_sg {G : Nat} {s : aB1} {rs : List aD8} {Al Ae : Option Addr} {cl ce : Nat} {tn : Bool} {tv : Value} (h : aY5 w G s rs (.slice Al rs.length cl) (.slice Ae s.ends.length ce) tv) : aT9 w (G + 1) ⟨s, tn, Al, cl, Ae, ce, rs⟩ := ⟨h.ents, h.map, h.dat, h.ends⟩
end
theorem bQ7 (l : List (aB1 × Bool)) : aK0 l = true ↔ ∀ j (h : j + 1 < l.length), l[j].1.k = l[j + 1].1.k - 1 ∧ l[j].2 = false ∧ l[j].1.ends ≠ [] := by
 induction l with
 | nil => simp [aK0]
 | cons a r ih =>
  cases r with
  | nil => simp [aK0]
  | cons b r =>
   unfold aK0;simp only [Bool.and_eq_true, decide_eq_true_eq, ih];constructor
   ·rintro ⟨⟨⟨h1, h2⟩, h3⟩, h4⟩ j hj
    cases j with
    | zero => exact ⟨h1, by simpa using h2, by simpa using h3⟩
    | succ j => exact h4 j (by simpa using hj)
   intro h;have h0 := h 0 (by simp);exact ⟨⟨⟨h0.1, by simpa using h0.2.1⟩, by simpa using h0.2.2⟩, fun j hj => h (j + 1) (by simpa using hj)⟩
def cW5 (l : List aF7) (j : Nat) (h : j < l.length) : Prop := (∀ h0 : 0 < j, (l[j - 1]'(by omega)).s.k = l[j].s.k - 1) ∧ (j + 1 < l.length -> l[j].tn = false ∧ l[j].s.ends ≠ [])
theorem bZ3 (l : List aF7) : aK0 (l.map aF7.o) = true ↔ ∀ j h, cW5 l j h := by
 rw [bQ7];constructor
 ·intro h j hj
  refine ⟨fun h0 => ?_, fun h1 => ?_⟩
  ·have := h (j - 1) (by rw [lU]; omega)
   simp only [List.getElem_map] at this;have e : j - 1 + 1 = j := by omega
   simp only [e] at this;exact this.1
  have := h j (by rw [lU]; exact h1);simp only [List.getElem_map] at this;exact ⟨this.2.1, this.2.2⟩
 intro h j hj;rw [lU] at hj;simp only [List.getElem_map];have h1 := (h (j + 1) (by omega)).1 (by omega);have h2 := (h j (by omega)).2 (by omega);exact ⟨h1, h2.1, h2.2⟩
end
section
open Go.RowKit Oct
structure aY4 (w : World) (F : Nat -> Prop) (ad : Addr) (s : aB1) : Prop where
 rd : aT7 w F ad s
 ends : s.ends.length = s.l.length + 1
 len : s.l.length <= 1099511627776
 txt : ∀ e ∈ s.l, e.b.length <= 65535
section
variable {w w' : World} {F F' : Nat -> Prop} {ad : Addr} {s t : aB1}
theorem aY4.keep (h : aY4 w F ad s) (hs : w.heap.size <= w'.heap.size) (hk : ∀ k, F k -> w'.heap[k]? = w.heap[k]?) : aY4 w' F ad s := ⟨h.rd.keep hs hk, h.ends, h.len, h.txt⟩
theorem aY4.mono (h : aY4 w F ad s) (hF : ∀ k, F k -> F' k) : aY4 w F' ad s := ⟨h.rd.mono hF, h.ends, h.len, h.txt⟩
theorem aT7.cells (h : aT7 w F ad s) : ∃ b o Al cl rs Ae ce, ad = ⟨b, o, none⟩ ∧ F b ∧ b < w.heap.size ∧ w.cell? ⟨b, o, none⟩ = some (.int .i64 s.k) ∧ w.cell? ⟨b, o + 1, none⟩ = some (.int .i64 s.first) ∧ w.cell? ⟨b, o + 2, none⟩ = some (.int .i64 s.term) ∧ w.cell? ⟨b, o + 3, none⟩ = some (.slice Al s.l.length cl) ∧ w.cell? ⟨b, o + 4, none⟩ = some (.slice Ae s.ends.length ce) ∧
  (s.l.length <= cl ∧ cl <= maxLen ∧ s.ends.length <= ce ∧ ce <= maxLen) ∧ RdF w F Al (aA7 rs) ∧ rs.map aD8.e = s.l ∧ (∀ q ∈ rs, bB7 w F q.v q.e.b) ∧ RdF w F Ae (s.ends.map (Value.int .i64)) := by
 obtain ⟨⟨Al, cl, rs, Ae, ce, h1, h2, h3, h4, h5, h6, h7, h8, h9⟩, hn⟩ := h;obtain ⟨b, o, e, hF, a7, hc⟩ := h1 (by simp);injection e with e
 subst e;exact ⟨b, o, Al, cl, rs, Ae, ce, rfl, hF, a7, hc 0 _ rfl, hc 1 _ rfl, hc 2 _ rfl, hc 3 _ rfl, hc 4 _ rfl, ⟨h2, h3, h4, h5⟩, h6, h7, h8, h9⟩
theorem aT7.last (h : aT7 w F ad s) (hl : s.l.length <= 4611686018427387904) :
  Calls Tryz.prog 62 #[.pointer (some ad)] w fun e w' => e = .returned (.tuple #[.int .i64 s.last.1, .int .i64 s.last.2]) ∧ Below w.heap.size w w' := by
 obtain ⟨b, o, Al, cl, rs, Ae, ce, rfl, hF, d8, c0, c1, c2, c3, c4, _, h6, h7, h8, h9⟩ := h.cells;have e9 : rs.length = s.l.length := by rw [<- h7, lU]
 have a9 := h.num.first;rw [<- e9] at c3 hl;rcases mJ rs with rfl | ⟨r, q, rfl⟩
 ·have a8 : s.last = (s.first - 1, s.term) := by
   unfold aB1.last;rw [<- h7]
   rfl
  rw [a8];exact bQ1 b o s.first s.term Al cl ⟨a9.1, by omega⟩ w c1 c2 c3
 rw [mA] at h6 h7 h8;simp only [mA, lT] at c3 hl;have a8 : s.last = (q.e.ix, q.e.tm) := by
  unfold aB1.last;rw [<- h7];simp
 rw [a8];obtain ⟨eb, eo, rfl, _, b8, hc⟩ := h6 (by rw [aC0]; simp);obtain ⟨Av, cd, hv, _⟩ := h8 q (by simp);have a7 : ∀ j, j < 4 -> (aA7 (r ++ [q]))[r.length * 4 + j]? = (aM6 q)[j]? := fun j hj => by
  rw [aE6 _ (k := r.length) (by simp) hj];simp
 have e0 := hc (r.length * 4 + 0) _ (a7 0 (by omega));have e1 := hc (r.length * 4 + 1) _ (a7 1 (by omega));have e2 := hc (r.length * 4 + 2) _ (a7 2 (by omega));have e3 := hc (r.length * 4 + 3) _ (a7 3 (by omega));exact bQ2 b o r.length eb eo cl q.e.ix q.e.tm q.e.kd Av q.e.b.length cd (by simp at hl; omega) w c3 (by simpa [Nat.add_assoc] using e0) (by simpa [Nat.add_assoc] using e1) (by simpa [Nat.add_assoc] using e2) (by simpa [hv, Nat.add_assoc] using e3) d8 b8
theorem aY4.long (h : aY4 w F ad s) : Calls Tryz.prog 56 #[.pointer (some ad)] w fun e w' => e = .returned (.int .i64 s.long) ∧ Below w.heap.size w w' := by
 obtain ⟨b, o, Al, cl, rs, Ae, ce, rfl, hF, a9, c0, c1, c2, c3, c4, _, h6, h7, h8, h9⟩ := h.rd.cells;have he := h.ends;have hl := h.len;rcases mJ s.ends with h0 | ⟨r, x, hr⟩
 ·rw [h0] at he
  simp at he
 rw [mA] at hr;have a7 : s.long = x := by unfold aB1.long; rw [hr]; simp
 rw [hr] at h9 c4 he;rw [a7];obtain ⟨eb, eo, rfl, _, a8, hc⟩ := h9 (by simp);have e0 := hc r.length (.int .i64 x) (by simp);rw [lT] at c4 he;simp at he
 exact bY8 b o r.length eb eo ce x (by omega) w c4 e0
theorem aY4.nameJ (h : aY4 w F ad s) (ht : Tab w) : Calls Tryz.prog 52 #[.pointer (some ad)] w fun e w' => e = .returned (.string (str (aA1 s.k))) ∧ Below w.heap.size w w' := by
 obtain ⟨b, o, Al, cl, rs, Ae, ce, rfl, hF, a7, c0, _⟩ := h.rd.cells;exact aN8 b o s.k h.rd.num.k w c0 ht
theorem aT7.goes {ad' : Addr} (h : aT7 w F ad s) (h' : aT7 w F' ad' t) (hl : t.l.length <= 4611686018427387904) (h1 : 1 <= s.first) :
  Calls Tryz.prog 53 #[.pointer (some ad), .pointer (some ad')] w fun e w' => e = .returned (.bool (s.goesOn t)) ∧ Below w.heap.size w w' := by
 obtain ⟨b, o, Al, cl, rs, Ae, ce, rfl, hF, f8, c0, c1, c2, _⟩ := h.cells;have a9 := qZ (h'.last hl);obtain ⟨fi, b8⟩ : ∃ x, x = s.first := ⟨_, rfl⟩
 obtain ⟨tm, e9⟩ : ∃ x, x = s.term := ⟨_, rfl⟩
 obtain ⟨li, d8⟩ : ∃ x, x = t.last.1 := ⟨_, rfl⟩
 obtain ⟨lt, a7⟩ : ∃ x, x = t.last.2 := ⟨_, rfl⟩
 have g7 : 1 <= fi ∧ fi <= 9223372036854775806 := by have := h.num.first; omega
 have f7 : s.goesOn t = (decide (fi - 1 = li) && decide (tm = lt)) := by unfold aB1.goesOn; rw [b8, e9, d8, a7]
 rw [f7];rw [<- b8] at c1;rw [<- e9] at c2;rw [<- d8, <- a7] at a9;have f9 := qZ c1;have g6 := qZ c2;clear b8 e9 d8 a7 f7 h h' h1 c0 c1 c2;have hw : IntKind.i64.wrap (fi - 1) = fi - 1 := mH _ (by omega);go_enter Tryz.func53, Tryz.ntmps53
 go_wp2_with fail
 refine a9.out.mono ?_;rintro e w2 ⟨rfl, a8⟩;have d1 : w2.cell? ⟨b, o + 1, none⟩ = some (.int .i64 fi) := (a8.cell (p := ⟨b, o + 1, none⟩) f8).trans f9.out;have d2 : w2.cell? ⟨b, o + 2, none⟩ = some (.int .i64 tm) := (a8.cell (p := ⟨b, o + 2, none⟩) f8).trans g6.out;have HB := qZ a8;clear a8 a9;by_cases h1 : fi - 1 = li
 ·have h2 : (fi - 1 == li) = true := by simpa using h1
  have h3 : decide (fi - 1 = li) = true := decide_eq_true h1;have H3 := qZ h3;clear h1 h3;go_wp2_with fail
  go_ret
  refine ⟨?_, HB.out⟩;rw [H3.out, Bool.true_and]
  rfl
 have h2 : (fi - 1 == li) = false := by simpa using h1
 have h3 : decide (fi - 1 = li) = false := decide_eq_false h1;have H3 := qZ h3;clear h1 h3;go_wp2_with fail
 go_ret
 refine ⟨?_, HB.out⟩;rw [H3.out]
 rfl
end
end
section
open Go.RowKit Oct
structure JAt (w : World) (F : Nat -> Prop) (gj g : Nat) (j : JnP) : Prop where
 at_ : ∃ A c ads, Blk w gj 53 #[.int .i64 j.term, .int .i64 j.vote, .slice A j.segs.length c, .pointer (some ⟨g, 0, none⟩), .int .i64 j.bad] ∧ (j.segs.length <= c ∧ c <= maxLen) ∧ RdF w F A ((ads : List Addr).map fun a => .pointer (some a)) ∧ ads.length = j.segs.length ∧ ∀ i (h : i < ads.length) (h' : i < j.segs.length), aY4 w F ads[i] j.segs[i]
 len : j.segs.length <= 1099511627776
 num : (-9223372036854775808 <= j.term ∧ j.term <= 9223372036854775807) ∧ (-9223372036854775808 <= j.vote ∧ j.vote <= 9223372036854775807)
section
variable {w w' : World} {F F' : Nat -> Prop} {gj g : Nat} {j : JnP}
theorem JAt.keep (h : JAt w F gj g j) (hs : w.heap.size <= w'.heap.size) (hk : ∀ k, F k -> w'.heap[k]? = w.heap[k]?) (hg : w'.heap[gj]? = w.heap[gj]?) : JAt w' F gj g j := by
 obtain ⟨⟨A, c, a7, h1, h2, h3, h4, h5⟩, h6, h7⟩ := h;exact ⟨⟨A, c, a7, hg.trans h1, h2, h3.keep hs hk, h4, fun i h h' => (h5 i h h').keep hs hk⟩, h6, h7⟩
theorem JAt.mono (h : JAt w F gj g j) (hF : ∀ k, F k -> F' k) : JAt w F' gj g j := by
 obtain ⟨⟨A, c, a7, h1, h2, h3, h4, h5⟩, h6, h7⟩ := h;exact ⟨⟨A, c, a7, h1, h2, h3.mono hF, h4, fun i h h' => (h5 i h h').mono hF⟩, h6, h7⟩
theorem JAt.lt (h : JAt w F gj g j) : gj < w.heap.size := by
 obtain ⟨⟨A, c, a7, h1, _⟩, _⟩ := h;exact h1.lt
theorem JAt.below (h : JAt w F gj g j) (hF : ∀ k, F k -> k < w.heap.size) (hb : Below w.heap.size w w') : JAt w' F gj g j := h.keep hb.size (fun k hk => hb.block k (hF k hk)) (hb.block gj h.lt)
theorem JAt.meta_ (h : JAt w F gj g j) : Calls Tryz.prog 19 #[.pointer (some ⟨gj, 0, none⟩)] w fun e w' => e = .returned (.tuple #[.int .i64 j.term, .int .i64 j.vote]) ∧ Below w.heap.size w w' := by
 obtain ⟨⟨A, c, a7, h1, _⟩, _⟩ := h;have c0 : w.cell? ⟨gj, 0, none⟩ = some (.int .i64 j.term) := h1.cell 0;have c1 : w.cell? ⟨gj, 1, none⟩ = some (.int .i64 j.vote) := h1.cell 1;clear h1;go_enter Tryz.func19, Tryz.ntmps19
 go_wp2_with fail
 go_quiet (fail);go_wp2_with fail
 go_ret2
 exact ⟨rfl, aA4 (lS _ w) _⟩
theorem JAt.base (h : JAt w F gj g j) : Calls Tryz.prog 20 #[.pointer (some ⟨gj, 0, none⟩)] w fun e w' => e = .returned (.tuple #[.int .i64 j.base.1, .int .i64 j.base.2]) ∧ Below w.heap.size w w' := by
 obtain ⟨⟨A, c, f8, h1, h2, h3, h4, h5⟩, h6, _⟩ := h;have c2 : w.cell? ⟨gj, 2, none⟩ = some (.slice A j.segs.length c) := h1.cell 2;clear h1;unfold JnP.base;rcases hs : j.segs with _ | ⟨s, r⟩
 ·rw [hs] at c2
  clear h2 h3 h4 h5 h6 hs;simp only [List.length_nil] at c2;go_enter Tryz.func20, Tryz.ntmps20
  go_wp2_with fail
  go_ret2
  exact ⟨rfl, lS _ w⟩
 have f7 : 0 < j.segs.length := by rw [hs]; simp
 have a9 : 0 < f8.length := by omega
 obtain ⟨ab, ao, rfl, _, g6, d8⟩ := h3 (by rw [lU]; exact a9);have hM := h5 0 a9 f7;simp only [hs, List.getElem_cons_zero] at hM;obtain ⟨b, o, Al, cl, rs, Ae, ce, b8, hF, g7, d0, d1, d2, _⟩ := hM.rd.cells;have e0 : w.cell? ⟨ab, ao, none⟩ = some (.pointer (some ⟨b, o, none⟩)) := d8 0 _ (by rw [List.getElem?_map, lW a9, b8]; rfl);obtain ⟨nl, e9⟩ : ∃ n, n = j.segs.length := ⟨_, rfl⟩
 rw [<- e9] at c2 f7;have g8 : ((nl : Int) == 0) = false := by simp; omega
 have f9 := hM.rd.num.first;obtain ⟨fi, a7⟩ : ∃ x, x = s.first := ⟨_, rfl⟩
 obtain ⟨tm, a8⟩ : ∃ x, x = s.term := ⟨_, rfl⟩
 rw [<- a7] at d1 f9;rw [<- a8] at d2;simp only;rw [<- a7, <- a8];clear h2 h3 h4 h5 h6 hs hM d8 b8 a9 e9 d0 a7 a8;have hw : IntKind.i64.wrap (fi - 1) = fi - 1 := mH _ (by omega);go_enter Tryz.func20, Tryz.ntmps20
 go_wp2_with fail
 go_quiet (fail);go_wp2_with fail
 go_ret2
 exact ⟨rfl, aA4 (lS _ w) _⟩
theorem JAt.last (h : JAt w F gj g j) : Calls Tryz.prog 40 #[.pointer (some ⟨gj, 0, none⟩)] w fun e w' => e = .returned (.tuple #[.int .i64 j.last.1, .int .i64 j.last.2]) ∧ Below w.heap.size w w' := by
 obtain ⟨⟨A, c, g7, h1, h2, h3, h4, h5⟩, h6, _⟩ := h;have c2 : w.cell? ⟨gj, 2, none⟩ = some (.slice A j.segs.length c) := h1.cell 2;clear h1;rcases mJ j.segs with hs | ⟨r, s, hs⟩
 ·have a7 : j.last = (0, 0) := by unfold JnP.last; rw [hs]; rfl
  rw [a7];rw [hs] at c2;clear a7 h2 h3 h4 h5 h6 hs;simp only [List.length_nil] at c2;go_enter Tryz.func40, Tryz.ntmps40
  go_wp2_with fail
  go_ret2
  exact ⟨rfl, lS _ w⟩
 rw [mA] at hs;have hl : j.segs.length = r.length + 1 := by rw [hs]; simp
 have a9 : r.length < g7.length := by omega
 have f9 : r.length < j.segs.length := by omega
 obtain ⟨ab, ao, rfl, _, g8, e9⟩ := h3 (by rw [lU]; omega);have hM := h5 r.length a9 f9;have f8 : j.segs[r.length] = s := by simp [hs]
 rw [f8] at hM;obtain ⟨b, o, Al, cl, rs, Ae, ce, b8, hF, g6, d0, d1, d2, _⟩ := hM.rd.cells;have e0 : w.cell? ⟨ab, ao + r.length, none⟩ = some (.pointer (some ⟨b, o, none⟩)) := e9 r.length _ (by rw [List.getElem?_map, lW a9, b8]; rfl);have d8 := qZ (fun n => (hM.keep (w' := w.drewN n) (lR _) (fun _ _ => rfl)).rd.last (by have := hM.len; omega));rw [b8] at d8;have a7 : j.last = s.last := by unfold JnP.last; rw [hs]; simp
 rw [a7];rw [hl] at c2;obtain ⟨n, hn⟩ : ∃ n, n = r.length := ⟨_, rfl⟩
 rw [<- hn] at c2 e0;have i2 : n <= 1099511627776 := by omega
 have i1 : (((n + 1 : Nat) : Int) == 0) = false := by simp; omega
 have hw : IntKind.i64.wrap (((n + 1 : Nat) : Int) - 1) = (n : Int) := by rw [mH _ (by omega)]; omega
 have i3 : ((n + 1 : Nat) : Int) - 1 = (n : Int) := by omega
 have g9 : b < w.heap.size := g6;have i4 : IntKind.i64.wrap (n : Int) = (n : Int) := mH _ (by omega);have i6 : 0 <= (n : Int) ∧ (n : Int) < (n : Int) + 1 := by omega
 clear h2 h3 h4 h5 h6 hs hM e9 b8 a9 d0 d1 d2 hl f9 f8 a7 hn g6;go_enter Tryz.func40, Tryz.ntmps40
 go_wp2_with fail
 refine wp_region_held_drew (S := fun W => W.cell? ⟨gj, 2, none⟩ = some (.slice (some ⟨ab, ao, none⟩) (n + 1) c) ∧ W.cell? ⟨ab, ao + n, none⟩ = some (.pointer (some ⟨b, o, none⟩)) ∧ True ∧ True) (by kernel_rfl) ⟨c2, e0, trivial, trivial⟩ (fun hHeld => ?_);refine zT 0 (k := ?_);refine zT 1 (k := ?_);refine zT 2 (k := ?_);refine zT 3 (k := ?_);refine zT 4 (k := ?_);refine zT 5 (k := ?_);refine zT 6 (k := ?_);refine zT 7 (k := ?_);refine zT 8 (k := ?_);refine zT 9 (k := ?_);refine zT 10 (k := ?_);refine zT 11 (k := ?_);simp only [zA, zB, zF, zG, zC, zD, zE];refine zV 12 (k := fun K hK => ?_);simp only [zA, zB];go_simp;refine (show Calls _ _ _ w.drew _ from d8.out 1).mono ?_;rintro e w1 ⟨rfl, f7⟩;have a8 : Below w.heap.size w w1 := ((lS _ w).drew).trans f7;have HB := qZ a8;have k0 : w1.cell? ⟨gj, 2, none⟩ = some (.slice (some ⟨ab, ao, none⟩) (n + 1) c) := (a8.cell (p := ⟨gj, 2, none⟩) (mI w ⟨gj, 2, none⟩ c2)).trans c2;have k1 : w1.cell? ⟨ab, ao + n, none⟩ = some (.pointer (some ⟨b, o, none⟩)) := (a8.cell (p := ⟨ab, ao + n, none⟩) g8).trans e0;refine hK.out _ _ ⟨k0, k1, trivial, trivial⟩ (fun hHeld => ?_);clear hK K f7 a8;try simp only [zF, zG, zC, zD, zE]
 refine zT 13 (k := ?_);refine zT 14 (k := ?_);refine zT 15 (k := ?_);refine zT 16 (k := ?_);simp only [zA, zB, zF, zG, zC, zD, zE];refine wpAnyH_done (by kernel_rfl) ?_ _;go_wp2_with fail
 go_ret2
 exact ⟨rfl, HB.out⟩
end
end
section
open Go.RowKit Oct
theorem cN5 (ix tm kd : Int) (Av : Option Addr) (n c : Nat) (w : World) :
  Calls Tryz.prog 112 #[.agg #[.int .i64 ix, .int .i64 tm, .int .i64 kd, .slice Av n c]] w fun e w' => e = .returned (.bool (decide (65535 < n))) ∧ Below w.heap.size w w' := by
 obtain ⟨wA, a7⟩ : ∃ W, W = w.alloc (.cells #[.int .i64 ix, .int .i64 tm, .int .i64 kd, .slice Av n c] 65) := ⟨_, rfl⟩
 have hb : Below w.heap.size w wA := by rw [a7]; exact (lS _ w).alloc (lR _) _
 have hk : Blk wA w.heap.size 65 #[.int .i64 ix, .int .i64 tm, .int .i64 kd, .slice Av n c] := by rw [a7]; exact Blk.new w _ _
 have c3 : wA.cell? ⟨w.heap.size, 3, none⟩ = some (.slice Av n c) := hk.cell 3;have HW := qZ a7;have HB := qZ hb;clear a7 hb hk;go_enter Tryz.func112, Tryz.ntmps112
 go_upto_region 1 with fail
 rw [<- HW.out];go_wp2_with fail
 go_ret
 exact ⟨by simp; omega, HB.out⟩
theorem cU6 {F : Nat -> Prop} (A : Option Addr) (rs : List aD8) (c : Nat) (w : World) (hr : RdF w F A (aA7 rs)) (hF : ∀ k, F k -> k < w.heap.size) (hv : ∀ q ∈ rs, ∃ Av cd, q.v = .slice Av q.e.b.length cd) (hl : rs.length <= 1099511627776) :
  Calls Tryz.prog 156 #[.slice A rs.length c, .func (.func 112) #[] #[]] w fun e w' => (∃ r : Int, e = .returned (.int .i64 r) ∧ decide (0 <= r) = rs.any fun q => decide (65535 < q.e.b.length)) ∧ Below w.heap.size w w' := by
 have HR := qZ hr;have HF := qZ hF;have HV := qZ hv;clear hr hF hv;go_enter Tryz.func156, Tryz.ntmps156
 go_wp2_with fail
 go_loopw [8, 5] (fun i _ wr => ∃ k : Nat, k <= rs.length ∧ i = .int .i64 k ∧ Hid ((rs.take k).any (fun q => decide (65535 < q.e.b.length)) = false) ∧ Hid (Below w.heap.size w wr)) (fun i _ _ => rs.length - (intOf i).toNat)
 case atStart => exact ⟨0, by omega, rfl, qZ rfl, qZ (lS _ _)⟩
 obtain ⟨k, hk, rfl, HA, HB⟩ := hrel;by_cases hlt : k < rs.length
 rotate_left
 ·obtain rfl : k = rs.length := by omega
  go_wp2_with fail
  go_ret
  have h1 := HA.out;rw [List.take_length] at h1;refine ⟨⟨_, rfl, ?_⟩, HB.out⟩;rw [h1]
  decide
 have f7 := HR.out.keep HB.out.size (fun k hk => HB.out.block k (HF.out k hk));obtain ⟨eb, eo, rfl, _, f9, hc⟩ := f7 (by rw [aC0]; omega);have a7 : ∀ i, i < 4 -> (aA7 rs)[k * 4 + i]? = (aM6 rs[k])[i]? := fun i hi => aE6 _ hlt hi
 obtain ⟨Av, cd, a8⟩ := HV.out rs[k] (lX hlt);have a9 : rs.take (k + 1) = rs.take k ++ [rs[k]] := by
  rw [List.take_add_one, lW hlt]
  rfl
 obtain ⟨q, hq⟩ : ∃ q, q = rs[k] := ⟨_, rfl⟩
 rw [<- hq] at a9 a8;have e0 : wr.cell? ⟨eb, eo + k * 4, none⟩ = some (.int .i64 q.e.ix) := hc (k * 4 + 0) _ (by rw [a7 0 (by omega), <- hq]; rfl);have e1 : wr.cell? ⟨eb, eo + k * 4 + 1, none⟩ = some (.int .i64 q.e.tm) := hc (k * 4 + 1) _ (by rw [a7 1 (by omega), <- hq]; rfl);have e2 : wr.cell? ⟨eb, eo + k * 4 + 2, none⟩ = some (.int .i64 q.e.kd) := hc (k * 4 + 2) _ (by rw [a7 2 (by omega), <- hq]; rfl);have e3 : wr.cell? ⟨eb, eo + k * 4 + 3, none⟩ = some (.slice Av q.e.b.length cd) := hc (k * 4 + 3) _ (by rw [a7 3 (by omega), <- hq, <- a8]; rfl);have d8 := qZ a9;have f8 := qZ (show rs = rs.take (k + 1) ++ rs.drop (k + 1) from (List.take_append_drop _ _).symm);have HL := qZ (cN5 q.e.ix q.e.tm q.e.kd Av q.e.b.length cd wr);clear a9 hq a7 a8 f7 hc;go_wp2_with fail
 refine HL.out.mono ?_;rintro e w2 ⟨rfl, e9⟩;have b8 := qZ (HB.out.trans (e9.mono HB.out.size));clear e9 HL e0 e1 e2 e3;by_cases e : 65535 < q.e.b.length
 ·have HE := qZ e
  have hs : decide (65535 < q.e.b.length) = true := decide_eq_true e;clear e;go_wp2_with fail
  go_ret
  refine ⟨⟨_, rfl, ?_⟩, b8.out⟩;rw [f8.out, d8.out];simp [HE.out]
 have HE := qZ e;have hs : decide (65535 < q.e.b.length) = false := decide_eq_false e;clear e;go_wp2_with fail
 go_roundw
 case rel => exact ⟨k + 1, by omega, by go_num, qZ (by rw [d8.out, List.any_append, HA.out]; simpa using HE.out), b8⟩
 case measure => simp [intOf]; omega
theorem cN3 {F : Nat -> Prop} (A : Option Addr) (rs : List aD8) (c : Nat) (w : World) (hr : RdF w F A (aA7 rs)) (hF : ∀ k, F k -> k < w.heap.size) (hv : ∀ q ∈ rs, ∃ Av cd, q.v = .slice Av q.e.b.length cd) (hl : rs.length <= 1099511627776) :
  Calls Tryz.prog 111 #[.slice A rs.length c, .func (.func 112) #[] #[]] w fun e w' => e = .returned (.bool (rs.any fun q => decide (65535 < q.e.b.length))) ∧ Below w.heap.size w w' := by
 have HC := qZ (cU6 A rs c w hr hF hv hl);clear hr hF hv;go_enter Tryz.func111, Tryz.ntmps111
 go_wp2_with fail
 refine HC.out.mono ?_;rintro e w2 ⟨⟨r, rfl, hr⟩, hb⟩;have HR := qZ hr;have HB := qZ hb;clear hr hb HC;go_wp2_with fail
 go_ret
 exact ⟨by rw [HR.out]; rfl, HB.out⟩
def cP5 (base : Int) (e : aF9) (last : Int) (prev : Option Int) : Bool := decide (e.ix <= base) || decide (last < e.ix - 1) || decide (e.ix = aD6) || (match prev with | none => false | some p => decide (e.ix - 1 ≠ p)) || decide (e.tm < 0) || decide (e.kd < 0)
theorem bL4 (base : Int) (e : aF9) (r : List aF9) (last : Int) (prev : Option Int) : aR8 base (e :: r) last prev = (! cP5 base e last prev && aR8 base r e.ix (some e.ix)) := rfl
def bD1 (L : List aF9) (k : Nat) : Option Int := if k = 0 then none else (L[k - 1]?).map aF9.ix
theorem cO8 {L : List aF9} {k : Nat} (h : k < L.length) : bD1 L (k + 1) = some L[k].ix := by
 unfold bD1;rw [if_neg (by omega), Nat.add_sub_cancel, lW h]
 rfl
theorem JnP.base_low {w : World} {F : Nat -> Prop} {gj g : Nat} {j : JnP} (h : JAt w F gj g j) : -1 <= j.base.1 ∧ j.base.1 <= 9223372036854775807 := by
 unfold JnP.base;rcases hs : j.segs with _ | ⟨s, r⟩
 ·simp
 obtain ⟨⟨A, c, a8, h1, h2, h3, h4, h5⟩, h6, _⟩ := h;have a7 : 0 < j.segs.length := by rw [hs]; simp
 have hM := h5 0 (by omega) a7;simp only [hs, List.getElem_cons_zero] at hM;have := hM.rd.num.first;simp only;omega
theorem JnP.last_low {w : World} {F : Nat -> Prop} {gj g : Nat} {j : JnP} (h : JAt w F gj g j) : -9223372036854775808 <= j.last.1 ∧ j.last.1 <= 9223372036854775807 := by
 unfold JnP.last;rcases mJ j.segs with hs | ⟨r, s, hs⟩
 ·rw [hs]; simp
 rw [mA] at hs;obtain ⟨⟨A, c, a7, h1, h2, h3, h4, h5⟩, h6, _⟩ := h;have hl : j.segs.length = r.length + 1 := by rw [hs]; simp
 have hM := h5 r.length (by omega) (by omega);simp only [hs, List.getElem_concat_length] at hM;rw [hs];simp only [List.getLast?_append, List.getLast?_singleton, Option.some_or];unfold aB1.last;have hn := hM.rd.num;rcases mJ s.l with h0 | ⟨r2, e, h0⟩
 ·rw [h0]
  have := hn.first;simp only [List.getLast?_nil];omega
 rw [mA] at h0;have := hn.ent e (by rw [h0]; simp);rw [h0];simp only [List.getLast?_append, List.getLast?_singleton, Option.some_or];omega
theorem dC4 {E F : Nat -> Prop} {gj g : Nat} {j : JnP} {w : World} (h : JAt w F gj g j) (q9 : ∀ k, F k -> k < w.heap.size) (A : Option Addr) (rs : List aD8) (c : Nat) (hr : RdF w E A (aA7 rs)) (hE : ∀ k, E k -> k < w.heap.size) (hv : ∀ q ∈ rs, ∃ Av cd, q.v = .slice Av q.e.b.length cd) (hl : rs.length <= 1099511627776)
  (l5 : ∀ q ∈ rs, (-9223372036854775808 <= q.e.ix ∧ q.e.ix <= 9223372036854775807) ∧ (-9223372036854775808 <= q.e.tm ∧ q.e.tm <= 9223372036854775807) ∧ (-9223372036854775808 <= q.e.kd ∧ q.e.kd <= 9223372036854775807)) :
  Calls Tryz.prog 58 #[.pointer (some ⟨gj, 0, none⟩), .slice A rs.length c] w fun e w' => e = .returned (.int .i64 (bT8 j (rs.map aD8.e))) ∧ Below w.heap.size w w' := by
 have e9 := qZ h.base;have g6 := qZ fun w' (hb : Below w.heap.size w w') => (h.below q9 hb).last
 have x6 := JnP.base_low h;have p0 := JnP.last_low h;obtain ⟨L, hL⟩ : ∃ L, L = rs.map aD8.e := ⟨_, rfl⟩
 obtain ⟨ba, m2⟩ : ∃ x, x = j.base.1 := ⟨_, rfl⟩
 obtain ⟨bt, s9⟩ : ∃ x, x = j.base.2 := ⟨_, rfl⟩
 obtain ⟨la, m4⟩ : ∃ x, x = j.last.1 := ⟨_, rfl⟩
 obtain ⟨lt, f9⟩ : ∃ x, x = j.last.2 := ⟨_, rfl⟩
 obtain ⟨an, n9⟩ : ∃ b, b = L.any fun e => decide (65535 < e.b.length) := ⟨_, rfl⟩
 obtain ⟨mr, g9⟩ : ∃ b, b = aR8 ba L la none := ⟨_, rfl⟩
 have t7 : bT8 j (rs.map aD8.e) = if mr = false then 1 else if an = true then 2 else 0 := by rw [g9, n9, hL, m2, m4]; rfl
 rw [t7];have p6 := qZ n9;have q5 := qZ g9;rw [<- m2, <- s9] at e9;rw [<- m2] at x6;rw [<- m4] at p0;have f7 : Hid (∀ w', Below w.heap.size w w' -> Calls Tryz.prog 40 #[.pointer (some ⟨gj, 0, none⟩)] w' fun e w2 => e = .returned (.tuple #[.int .i64 la, .int .i64 lt]) ∧ Below w'.heap.size w' w2) := qZ (fun w' hb => by rw [m4, f9]; exact g6.out w' hb);have HR := qZ hr;have HE := qZ hE;have HV := qZ hv;have i6 := qZ l5;have HL := qZ hL;have r9 : L.length = rs.length := by rw [hL, lU]
 have i1 := qZ r9;clear h hr hE hv l5 hL m2 s9 m4 f9 t7 g6 r9 q9 n9 g9;go_enter Tryz.func58, Tryz.ntmps58
 go_wp2_with fail
 refine e9.out.mono ?_;rintro e w1 ⟨rfl, o7⟩;have g8 := qZ o7;have p9 := qZ (f7.out w1 o7);clear o7 e9 f7;go_wp2_with fail
 refine p9.out.mono ?_;rintro e w2 ⟨rfl, l4⟩;have p7 := qZ (g8.out.trans (l4.mono g8.out.size));clear l4 p9 g8;go_wp2_with fail
 go_loopw [27, 7, 9, 10] (fun i lv _ _ wr => ∃ (k : Nat) (ls : Int), k <= rs.length ∧ i = .int .i64 k ∧ lv = .int .i64 ls ∧ (-9223372036854775808 <= ls ∧ ls <= 9223372036854775807) ∧ Hid (aR8 ba L la none = aR8 ba (L.drop k) ls (bD1 L k)) ∧ Hid (∀ p, bD1 L k = some p -> p = ls) ∧ Hid (Below w.heap.size w wr)) (fun i _ _ _ _ => rs.length - (intOf i).toNat)
 case atStart => exact ⟨0, la, by omega, rfl, rfl, p0, qZ rfl, qZ (fun p hp => by cases hp), p7⟩
 obtain ⟨k, ls, hk, rfl, rfl, z8, l8, n7, HB⟩ := hrel;clear p7;by_cases f9 : k < rs.length
 rotate_left
 ·obtain rfl : k = rs.length := by omega
  have hm : mr = true := by rw [q5.out, l8.out, List.drop_eq_nil_of_le (by rw [i1.out]; exact lR _)]; rfl
  subst hm;have o8 := cN3 A rs c wr (HR.out.keep HB.out.size (fun k hk => HB.out.block k (HE.out k hk))) (fun k hk => by have := HE.out k hk; have := HB.out.size; omega) HV.out hl;have j6 : (rs.any fun q => decide (65535 < q.e.b.length)) = L.any fun e => decide (65535 < e.b.length) := by rw [HL.out, List.any_map]; rfl
  rw [j6, <- p6.out] at o8;have p8 := qZ o8;clear o8 j6 l8 n7 p6;go_wp2_with fail
  refine p8.out.mono ?_;rintro e w2 ⟨rfl, l4⟩;have i4 := qZ (HB.out.trans (l4.mono HB.out.size));clear l4 p8;cases an with
  | true =>
   go_wp2_with fail
   go_ret
   exact ⟨rfl, i4.out⟩
  | false =>
   go_wp2_with fail
   go_ret
   exact ⟨rfl, i4.out⟩
 have x5 := HR.out.keep HB.out.size (fun k hk => HB.out.block k (HE.out k hk));obtain ⟨eb, eo, rfl, _, x7, hc⟩ := x5 (by rw [aC0]; omega);have j8 : ∀ i, i < 4 -> (aA7 rs)[k * 4 + i]? = (aM6 rs[k])[i]? := fun i hi => aE6 _ f9 hi
 obtain ⟨Av, cd, p5⟩ := HV.out rs[k] (lX f9);have p4 := i6.out rs[k] (lX f9);have n8 : L[k]'(by rw [i1.out]; exact f9) = rs[k].e := by simp only [HL.out, List.getElem_map]
 have g7 : 0 < k -> ∃ cs, wr.cell? ⟨eb, eo + (k - 1) * 4, none⟩ = some (.int .i64 ls) ∧ bD1 L k = some ls ∧ cs = () := fun h0 => by
  have h1 : k - 1 < rs.length := by omega
  have h2 := hc ((k - 1) * 4 + 0) _ (by rw [aE6 _ h1 (by omega)]; rfl);have h3 : bD1 L k = some rs[k - 1].e.ix := by
   unfold bD1;rw [if_neg (by omega), lW (by rw [i1.out]; exact h1)];simp only [HL.out, List.getElem_map, Option.map_some]
  have h4 := n7.out _ h3;rw [h4] at h2 h3;exact ⟨(), h2, h3, rfl⟩
 have n6 := qZ g7;have o9 : L.drop k = rs[k].e :: L.drop (k + 1) := by rw [<- n8]; exact List.drop_eq_getElem_cons (by rw [i1.out]; exact f9)
 have l6 : bD1 L (k + 1) = some rs[k].e.ix := by rw [cO8 (by rw [i1.out]; exact f9), n8]
 obtain ⟨q, hq⟩ : ∃ q, q = rs[k] := ⟨_, rfl⟩
 rw [<- hq] at p5 p4 o9 l6;obtain ⟨ix, i3⟩ : ∃ x, x = q.e.ix := ⟨_, rfl⟩
 obtain ⟨tm, m5⟩ : ∃ x, x = q.e.tm := ⟨_, rfl⟩
 obtain ⟨kd, m3⟩ : ∃ x, x = q.e.kd := ⟨_, rfl⟩
 obtain ⟨nb, t9⟩ : ∃ x, x = q.e.b.length := ⟨_, rfl⟩
 have e0 : wr.cell? ⟨eb, eo + k * 4, none⟩ = some (.int .i64 ix) := hc (k * 4 + 0) _ (by rw [j8 0 (by omega), <- hq, i3]; rfl);have e1 : wr.cell? ⟨eb, eo + k * 4 + 1, none⟩ = some (.int .i64 tm) := hc (k * 4 + 1) _ (by rw [j8 1 (by omega), <- hq, m5]; rfl);have e2 : wr.cell? ⟨eb, eo + k * 4 + 2, none⟩ = some (.int .i64 kd) := hc (k * 4 + 2) _ (by rw [j8 2 (by omega), <- hq, m3]; rfl);have e3 : wr.cell? ⟨eb, eo + k * 4 + 3, none⟩ = some (.slice Av nb cd) := hc (k * 4 + 3) _ (by rw [j8 3 (by omega), <- hq, t9, <- p5]; rfl);obtain ⟨B, hB⟩ : ∃ B, B = cP5 ba q.e ls (bD1 L k) := ⟨_, rfl⟩
 have t8 : aR8 ba L la none = (! B && aR8 ba (L.drop (k + 1)) ix (bD1 L (k + 1))) := by rw [l8.out, o9, bL4, <- hB, l6, i3]
 unfold cP5 at hB;rw [<- i3, <- m5, <- m3] at hB;rw [<- i3, <- m5, <- m3] at p4;rw [<- i3] at l6;have f8 := qZ t8;have a8 := qZ hB;have q6 := qZ l6;obtain ⟨wB, m6⟩ : ∃ W, W = wr.alloc (.cells #[.int .i64 ix, .int .i64 tm, .int .i64 kd, .slice Av nb cd] 65) := ⟨_, rfl⟩
 have m0 : Below wr.heap.size wr wB := by rw [m6]; exact (lS _ wr).alloc (lR _) _
 have q8 : Blk wB wr.heap.size 65 #[.int .i64 ix, .int .i64 tm, .int .i64 kd, .slice Av nb cd] := by rw [m6]; exact Blk.new wr _ _
 have z7 := qZ m0;have l7 := qZ q8;have q7 := qZ m6;have m9 := qZ (HB.out.trans (m0.mono HB.out.size));have b8 := qZ (show 0 < k -> wB.cell? ⟨eb, eo + (k - 1) * 4, none⟩ = some (.int .i64 ls) from fun h0 => by
  obtain ⟨_, h1, _, _⟩ := n6.out h0;exact (m0.cell (p := ⟨eb, eo + (k - 1) * 4, none⟩) x7).trans h1)
 have d8 := qZ (show (0 < k -> bD1 L k = some ls) ∧ (¬ 0 < k -> bD1 L k = none) from ⟨fun h0 => by obtain ⟨_, _, h1, _⟩ := n6.out h0; exact h1, fun h0 => by unfold bD1; rw [if_pos (by omega)]⟩);clear x5 hc j8 p5 n8 g7 o9 l6 hq i3 m5 m3 t9 hB t8 m6 m0 q8 n6 l8 n7;go_upto_region 6 with fail
 rw [<- q7.out];obtain ⟨i2, a9⟩ : ∃ n, n = wr.heap.size := ⟨_, rfl⟩
 have f0 : wB.cell? ⟨i2, 0, none⟩ = some (.int .i64 ix) := by rw [a9]; exact l7.out.cell 0
 have f1 : wB.cell? ⟨i2, 1, none⟩ = some (.int .i64 tm) := by rw [a9]; exact l7.out.cell 1
 have f2 : wB.cell? ⟨i2, 2, none⟩ = some (.int .i64 kd) := by rw [a9]; exact l7.out.cell 2
 rw [<- a9];have m7 := qZ a9;clear a9 e0 e1 e2 e3 q7 l7;go_cut [73] from 32 to 73 (fun c wx => c = .bool B ∧ Hid (Below wB.heap.size wB wx))
 case first =>
  clear i6 HL i1 HR HE HV HB f8 q6 m9 m7 p0;by_cases h1 : ix <= ba
  ·have d1 : decide (ix <= ba) = true := decide_eq_true h1
   have a7 : Hid (B = true) := qZ (by rw [a8.out]; simp [h1]);clear a8 d8 b8;go_big_quiet (fail)
   go_wp2_with fail
   go_meet;exact ⟨by first | (rw [a7.out]; done) | (rw [a7.out]; rfl), qZ (aA4 (lS _ wB) _)⟩
  have d1 : decide (ix <= ba) = false := decide_eq_false h1;have B1 : IntKind.i64.wrap (ix - 1) = ix - 1 := mH _ (by omega);by_cases h2 : ls < ix - 1
  ·have d2 : decide (ls < ix - 1) = true := decide_eq_true h2
   have a7 : Hid (B = true) := qZ (by rw [a8.out]; simp [h2]);clear a8 d8 b8;go_big_quiet (fail)
   go_wp2_with fail
   go_meet;exact ⟨by first | (rw [a7.out]; done) | (rw [a7.out]; rfl), qZ (aA4 (lS _ wB) _)⟩
  have d2 : decide (ls < ix - 1) = false := decide_eq_false h2;by_cases h3 : ix = 9223372036854775807
  ·have d3 : (ix == 9223372036854775807) = true := beq_iff_eq.2 h3
   have a7 : Hid (B = true) := qZ (by rw [a8.out]; simp [h3, aD6]);have y9 : ix - 1 = ix - 1 := rfl;clear a8 d8 b8 h3 y9;go_big_quiet (fail)
   go_wp2_with fail
   go_meet;exact ⟨by first | (rw [a7.out]; done) | (rw [a7.out]; rfl), qZ (aA4 (lS _ wB) _)⟩
  have d3 : (ix == 9223372036854775807) = false := beq_eq_false_iff_ne.2 h3;by_cases h4 : 0 < k
  rotate_left
  ·have d4 : decide (0 < k) = false := decide_eq_false h4
   have l9 := qZ (d8.out.2 h4);by_cases h6 : tm < 0
   ·have d6 : decide (tm < 0) = true := decide_eq_true h6
    have a7 : Hid (B = true) := qZ (by rw [a8.out]; simp [h6]);clear a8 d8 b8;go_big_quiet (fail)
    go_wp2_with fail
    go_meet;exact ⟨by first | (rw [a7.out]; done) | (rw [a7.out]; rfl), qZ (aA4 (lS _ wB) _)⟩
   have d6 : decide (tm < 0) = false := decide_eq_false h6;by_cases h7 : kd < 0
   ·have d7 : decide (kd < 0) = true := decide_eq_true h7
    have a7 : Hid (B = true) := qZ (by rw [a8.out]; simp [h7]);clear a8 d8 b8;go_big_quiet (fail)
    go_wp2_with fail
    go_meet;exact ⟨by first | (rw [a7.out]; done) | (rw [a7.out]; rfl), qZ (aA4 (lS _ wB) _)⟩
   have d7 : decide (kd < 0) = false := decide_eq_false h7;have a7 : Hid (B = false) := qZ (by rw [a8.out]; rw [l9.out]; simp [h1, h2, h3, h6, h7, aD6]);clear a8 d8 b8;go_big_quiet (fail)
   go_wp2_with fail
   go_meet;exact ⟨by first | (rw [a7.out]; done) | (rw [a7.out]; rfl), qZ (aA4 (lS _ wB) _)⟩
  have d4 : decide (0 < k) = true := decide_eq_true h4;have x4 := d8.out.1 h4;have y7 := b8.out h4;obtain ⟨m, hm⟩ : ∃ m, k = m + 1 := ⟨k - 1, by omega⟩
  rw [show k - 1 = m by omega] at y7;have l9 := qZ x4;have y8 : (k : Int) - 1 = (m : Int) := by omega
  have B2 : IntKind.i64.wrap (m : Int) = (m : Int) := mH _ (by omega);have z9 : m < rs.length := by omega
  have x8 : (m : Int) < (rs.length : Int) := by omega
  clear x4 hm;by_cases h5 : ix - 1 = ls
  rotate_left
  ·have d5 : (ix - 1 != ls) = true := bne_iff_ne.2 h5
   have a7 : Hid (B = true) := qZ (by rw [a8.out]; rw [l9.out]; simp [h5]);clear a8 d8 b8;go_big_quiet (fail)
   go_wp2_with fail
   go_meet;exact ⟨by first | (rw [a7.out]; done) | (rw [a7.out]; rfl), qZ (aA4 (lS _ wB) _)⟩
  have d5 : (ix - 1 != ls) = false := by rw [bne_eq_false_iff_eq]; exact h5
  by_cases h6 : tm < 0
  ·have d6 : decide (tm < 0) = true := decide_eq_true h6
   have a7 : Hid (B = true) := qZ (by rw [a8.out]; simp [h6]);clear a8 d8 b8;go_big_quiet (fail)
   go_wp2_with fail
   go_meet;exact ⟨by first | (rw [a7.out]; done) | (rw [a7.out]; rfl), qZ (aA4 (lS _ wB) _)⟩
  have d6 : decide (tm < 0) = false := decide_eq_false h6;by_cases h7 : kd < 0
  ·have d7 : decide (kd < 0) = true := decide_eq_true h7
   have a7 : Hid (B = true) := qZ (by rw [a8.out]; simp [h7]);clear a8 d8 b8;go_big_quiet (fail)
   go_wp2_with fail
   go_meet;exact ⟨by first | (rw [a7.out]; done) | (rw [a7.out]; rfl), qZ (aA4 (lS _ wB) _)⟩
  have d7 : decide (kd < 0) = false := decide_eq_false h7;have a7 : Hid (B = false) := qZ (by rw [a8.out]; rw [l9.out]; simp [h1, h2, h3, h6, h7, aD6, h5]);clear a8 d8 b8;go_big_quiet (fail)
  go_wp2_with fail
  go_meet;exact ⟨by first | (rw [a7.out]; done) | (rw [a7.out]; rfl), qZ (aA4 (lS _ wB) _)⟩
 obtain ⟨rfl, m8⟩ := hcut;have j9 := mI wB ⟨i2, 0, none⟩ f0;have g0 : wc.cell? ⟨i2, 0, none⟩ = some (.int .i64 ix) := (m8.out.cell (p := ⟨i2, 0, none⟩) j9).trans f0;have i4 := qZ (m9.out.trans (m8.out.mono m9.out.size));clear f0 f1 f2 m8 a8 b8;cases B with
 | true =>
  have hm : mr = false := by rw [q5.out, f8.out]; rfl
  subst hm;clear f8;go_wp2_with fail
  go_ret
  exact ⟨rfl, i4.out⟩
 | false =>
  go_wp2_with fail
  go_roundw
  case rel => exact ⟨k + 1, ix, by omega, by go_num, rfl, p4.1, qZ (by rw [f8.out]; rfl), qZ (fun p hp => by rw [q6.out] at hp; injection hp with hp; exact hp.symm), i4⟩
  case measure => simp [intOf]; omega
end
section
open Go.RowKit Oct
theorem aU5 {B : Nat} {a w : World} (h : Below B a w) (g i : Nat) (u : Value) (hg : B <= g) : Below B a (w.setCell ⟨g, i, none⟩ u) :=
 ⟨h.os, h.tape, h.output, Nat.le_trans h.size (aA0 w g i u).size, fun k hk => (Below.heap_setCell _ _ _ _ (by show k ≠ g; omega)).trans (h.block k hk)⟩
theorem aY5.setR {w : World} {G : Nat} {s : aB1} {rs : List aD8} {vl ve tv : Value} (h : aY5 w G s rs vl ve tv) (g i : Nat) (u : Value) (hg : g < G) : aY5 (w.setCell ⟨g, i, none⟩ u) G s rs vl ve tv :=
 ⟨h.blk.far (by show G ≠ g; omega) u, World.ownsRow.kept h.ents (aA0 w g i u) (by
  cases hv : vl.ownBlock with
  | none => exact .inl rfl
  | some q => exact .inr fun e => by injection e with e; have := (World.ownsRow.lt h.ents q hv).1; omega), h.map, fun q hq => (h.dat q hq).keep fun k hk => (aA0 w g i u).block k ((h.dat q hq).lt k hk).2 (fun e => by injection e with e; have := ((h.dat q hq).lt k hk).1; omega), Own.far h.ends (aA0 w g i u) (by omega)⟩
theorem aY8 (A1 : Option Addr) (l1 : List UInt8) (c1 : Nat) (w : World) (h1 : Rd w w.heap.size A1 (cells l1)) (d8 : l1.length <= 70000000) :
  Calls Tryz.prog 67 #[.slice (some ⟨w.heap.size, 0, none⟩) 1 1] (w.alloc (.cells #[.slice A1 l1.length c1] 34)) fun e w' => ∃ v, e = .returned v ∧ Got w' w.heap.size v (aF2 l1) ∧ Below w.heap.size w w' := by
 have a8 : Below w.heap.size w (w.alloc (.cells [Row.val ⟨A1, l1, c1⟩].toArray 34)) := (lS _ w).alloc (lR _) _;have b8 : Rd (w.alloc (.cells [Row.val ⟨A1, l1, c1⟩].toArray 34)) (w.alloc (.cells [Row.val ⟨A1, l1, c1⟩].toArray 34)).heap.size (some ⟨w.heap.size, 0, none⟩) ([⟨A1, l1, c1⟩].map Row.val) := (aG4 w 34 [Row.val ⟨A1, l1, c1⟩]).more (by simp);have a9 : RRd (w.alloc (.cells [Row.val ⟨A1, l1, c1⟩].toArray 34)) (w.alloc (.cells [Row.val ⟨A1, l1, c1⟩].toArray 34)).heap.size [⟨A1, l1, c1⟩] := fun p hp => by
  obtain rfl := List.mem_singleton.1 hp;exact ⟨(h1.below a8).more a8.size, by show l1.length <= _; omega⟩
 have a7 : aG6 [⟨A1, l1, c1⟩] = l1 := by simp [aG6]
 have h := bK6 (some ⟨w.heap.size, 0, none⟩) [⟨A1, l1, c1⟩] 1 1 rfl _ b8 a9 (by simp) (by rw [a7]; omega) (by simp);rw [a7] at h;exact h.mono fun e w' ⟨v, h1, h2, h3⟩ => ⟨v, h1, h2.mono (by simp), a8.trans (h3.mono (by simp))⟩
theorem aY5.pushEnd {w w2 : World} {G : Nat} {s : aB1} {rs : List aD8} {vl ve ve' tv : Value} {a : Int} (h : aY5 w G s rs vl ve tv) (a9 : Own w2 (G + 1) 3 ve' (s.ends.map (Value.int .i64) ++ [.int .i64 a])) (hg : w.grownBy w2 ve.ownBlock) :
  aY5 (w2.setCell ⟨G, 4, none⟩ ve') G { s with ends := s.ends ++ [a] } rs vl ve' tv := by
 have e9 : ∀ k, ve.ownBlock = some k -> G < k := fun k hk => by have := (Own.lt h.ends k hk).1; omega
 have d8 := aA0 w2 G 4 ve';have k1 : Blk w2 G 106 _ := h.blk.grown hg (fun e => by have := e9 G e.symm; omega);have a7 : Own w2 (G + 1) 3 ve' ((s.ends ++ [a]).map (Value.int .i64)) := by simpa using a9
 have b8 : w2.ownsRow (G + 1) 65 4 vl rs.length (aA7 rs) := World.ownsRow.kept h.ents hg (jrow_type_ne h.ents h.ends (by decide));refine ⟨Blk.set_ k1 4 _, World.ownsRow.kept b8 d8 (by
  cases hv : vl.ownBlock with
  | none => exact .inl rfl
  | some k => exact .inr fun e => by injection e with e; have := (World.ownsRow.lt b8 k hv).1; omega), h.map, fun q hq => (h.dat q hq).keep fun k hk => ?_, Own.far a7 d8 (by omega)⟩
 have h2 := (h.dat q hq).lt k hk;rw [Below.heap_setCell w2 ⟨G, 4, none⟩ ve' k (by show k ≠ G; omega)];refine hg.block k h2.2 fun e => ?_
 obtain ⟨g, cs, fz, e1, hc⟩ := (h.dat q hq).held;rw [hk] at e1;injection e1 with e1
 subst e1;obtain ⟨f7, a8⟩ := aD1 h.ends e.symm;rw [hc] at a8;injection a8 with a8
 injection a8 with _ h _
 exact absurd h (by decide)
theorem bF9 {w1 w2 w4 : World} {G : Nat} {s : aB1} {rs : List aD8} {vl ve v4 tv : Value} {a : Int} (hS : aY5 w2 G s rs vl ve tv) (hB : Below G w1 w2) (a7 : Own w4 (G + 1) 3 v4 (s.ends.map (Value.int .i64) ++ [.int .i64 a])) (hg : w2.grownBy w4 ve.ownBlock) :
  ∃ A4 c4, v4 = .slice A4 (s.ends.length + 1) c4 ∧ w4.cell? ⟨G, 4, none⟩ = some ve ∧ w4.frozen? ⟨G, 4, none⟩ = false ∧ aY5 (w4.setCell ⟨G, 4, none⟩ v4) G { s with ends := s.ends ++ [a] } rs vl v4 tv ∧ Below G w1 (w4.setCell ⟨G, 4, none⟩ v4) := by
 have a8 : ve.ownBlock ≠ some G := fun e => by have := (Own.lt hS.ends G e).1; omega
 have d8 := hS.blk.lt;have k4 := hg.block G d8 (fun e => a8 e.symm);have a9 : Blk w4 G 106 _ := Eq.trans k4 hS.blk;obtain ⟨A4, c4, b8, _, _, _⟩ := Own.shape a7;rw [lT, lU] at b8;have hb := hB.size;exact ⟨A4, c4, b8, a9.cell 4, a9.frozen _, hS.pushEnd a7 hg, aU5 (hB.grown hg (by omega) (fun j hj => by have := (Own.lt hS.ends j hj).1; omega)) G 4 _ (lR _)⟩
theorem cV0 (k : Int) (hk : -9223372036854775808 <= k ∧ k <= 9223372036854775807) (A : Option Addr) (b : List UInt8) (c : Nat) (w : World) (hr : Rd w w.heap.size A (cells b)) (D4 : b.length <= c) (hb : b.length <= 1000000000) (hc : c <= 9223372036854775807) :
  Calls Tryz.prog 99 #[.int .i64 k, .slice A b.length c] w fun e w' => Below w.heap.size w w' ∧ ∃ v, e = .returned (.tuple #[v, .bool (aD0 k b).isSome]) ∧ (∃ a1 a2 a3 Al nl cl Ae ne ce tn, v = .agg #[.int .i64 a1, .int .i64 a2, .int .i64 a3, .slice Al nl cl, .slice Ae ne ce, .bool tn]) ∧
   ∀ s torn, aD0 k b = some (s, torn) -> ∃ G rs vl ve, w.heap.size <= G ∧ aY5 w' G s rs vl ve (.bool torn) ∧ v = .agg #[.int .i64 s.k, .int .i64 s.first, .int .i64 s.term, vl, ve, .bool torn] ∧ s.k = k ∧ (0 <= s.first ∧ s.first <= 9223372036854775806) ∧ -1 <= s.last.1 ∧ s.l.length <= b.length ∧ s.ends.length <= b.length := by
 have n7 : Below w.heap.size w (w.alloc (.cells #[.int .i64 0, .int .i64 0, .int .i64 0, .slice none 0 0, .slice none 0 0, .bool false] 106)) := (lS _ w).alloc (lR _) _;have p9 : Blk (w.alloc (.cells #[.int .i64 0, .int .i64 0, .int .i64 0, .slice none 0 0, .slice none 0 0, .bool false] 106)) w.heap.size 106 #[.int .i64 0, .int .i64 0, .int .i64 0, .slice none 0 0, .slice none 0 0, .bool false] := Blk.new w _ _;have z9 := qZ (dE5 A b b.length c rfl (w.alloc (.cells #[.int .i64 0, .int .i64 0, .int .i64 0, .slice none 0 0, .slice none 0 0, .bool false] 106)) ((hr.below n7).more n7.size) D4 (by omega));have y9 := qZ p9;have z8 := qZ n7;have B7 := p9.lt;clear n7 p9 hr;go_enter Tryz.func99, Tryz.ntmps99
 go_wp2_with fail
 refine z9.out.mono ?_;rintro e w1 ⟨v, xs, rfl, hg, q5⟩;obtain ⟨A1, c1, hv, G4, G5, D8⟩ := Own.shape hg.own;subst hv;have p8 := y9.out.below q5 B7;have p7 : Below w.heap.size w w1 := z8.out.trans (q5.mono (by omega));obtain ⟨er, q7⟩ : ∃ er, er = (aH6 b).2.2 := ⟨_, rfl⟩
 have C6 := qZ q7;rw [<- q7];have G7 := p7.size;have B6 : w.heap.size < w1.heap.size := p8.lt;clear q7 z9 y9 z8;have g6 := qZ hg;have m8 := qZ p8;have n9 := qZ p7;clear hg p8 p7 q5;go_upto_region 3 with (fail)
 obtain ⟨G, hG⟩ : ∃ G, G = w1.heap.size := ⟨_, rfl⟩
 have B8 : aY5 (w1.alloc (.cells #[.int .i64 k, .int .i64 0, .int .i64 0, .slice none 0 0, .slice none 0 0, .bool (er != 0)] 106)) G ⟨k, 0, 0, [], []⟩ [] (.slice none 0 0) (.slice none 0 0) (.bool (er != 0)) := by
  rw [hG];exact ⟨Blk.new w1 _ _, World.ownsRow_nil _ _ _ _, rfl, (fun q hq => by cases hq), Own.nil _ _ _⟩
 have B5 : Below G w1 (w1.alloc (.cells #[.int .i64 k, .int .i64 0, .int .i64 0, .slice none 0 0, .slice none 0 0, .bool (er != 0)] 106)) := by
  rw [hG];exact (lS _ w1).alloc (lR _) _
 have p6 := qZ B8;have o9 := qZ B5;rw [<- hG];obtain ⟨tn, x7⟩ : ∃ tn, tn = (er != 0) := ⟨_, rfl⟩
 rw [<- x7] at p6 o9 ⊢;have C9 := qZ x7;generalize (w1.alloc (.cells #[.int .i64 k, .int .i64 0, .int .i64 0, .slice none 0 0, .slice none 0 0, .bool tn] 106)) = wG at p6 o9 ⊢
 have HG := qZ hG;have j6 := qZ B6;obtain ⟨B9, l8⟩ := bM4 b;have G8 : xs.length <= 1000000000 := by rw [g6.out.len]; omega
 clear B8 B5 x7 hG B7 B6 D8;go_wp2_with fail
 go_loopw [10, 11, 12, 26] (fun at_ _ _ ix wr => ∃ (i : Nat) (a : Int) (s : aB1) (rs : List aD8) (vl ve : Value), i <= xs.length ∧ ix = .int .i64 i ∧ at_ = .int .i64 a ∧ Hid (RdI k b i s a) ∧ Hid (rs.length = s.l.length) ∧ Hid (aY5 wr G s rs vl ve (.bool tn)) ∧ Hid (Below G w1 wr)) (fun _ _ _ ix _ => xs.length - (intOf ix).toNat)
 case atStart => exact ⟨0, 0, _, [], _, _, by omega, rfl, rfl, qZ (RdI.start k b), qZ rfl, p6, o9⟩
 obtain ⟨i, a, s, rs, vl, ve, hi, rfl, rfl, a9, p4, HS, HB⟩ := hrel;have G0 : G < wr.heap.size := HS.out.blk.lt;by_cases n8 : i < xs.length
 rotate_left
 ·obtain rfl : i = xs.length := by omega
  have hD := a9.out.done g6.out.len;obtain ⟨Al, cl, y7, _⟩ := aC2 HS.out.ents;obtain ⟨Ae, ce, m7, _, _, _⟩ := Own.shape HS.out.ends;rw [lU] at m7;subst y7 m7;have a7 := m8.out.below HB.out (by rw [HG.out]; exact j6.out);have C5 : tn = decide ((aH6 b).2.2 ≠ 0) := by rw [C9.out, C6.out]; by_cases h : (aH6 b).2.2 = 0 <;> simp [h, bne]
  rw [<- C5] at hD;have hz : (aD0 k b).isSome = true := by rw [hD]; rfl
  have HZ := qZ hz;have HD := qZ hD;have g0 : wr.cell? ⟨G, 0, none⟩ = some (.int .i64 s.k) := HS.out.blk.cell 0;have g1 : wr.cell? ⟨G, 1, none⟩ = some (.int .i64 s.first) := HS.out.blk.cell 1;have g2 : wr.cell? ⟨G, 2, none⟩ = some (.int .i64 s.term) := HS.out.blk.cell 2;have g3 : wr.cell? ⟨G, 3, none⟩ = some (.slice Al _ cl) := HS.out.blk.cell 3;have g4 : wr.cell? ⟨G, 4, none⟩ = some (.slice Ae _ ce) := HS.out.blk.cell 4;have g5 : wr.cell? ⟨G, 5, none⟩ = some (.bool tn) := HS.out.blk.cell 5;have r0 : wr.cell? ⟨w.heap.size, 0, none⟩ = some _ := a7.cell 0;have r1 : wr.cell? ⟨w.heap.size, 1, none⟩ = some _ := a7.cell 1;have r2 : wr.cell? ⟨w.heap.size, 2, none⟩ = some _ := a7.cell 2;have r3 : wr.cell? ⟨w.heap.size, 3, none⟩ = some _ := a7.cell 3;have r4 : wr.cell? ⟨w.heap.size, 4, none⟩ = some _ := a7.cell 4;have r5 : wr.cell? ⟨w.heap.size, 5, none⟩ = some _ := a7.cell 5;have z0 : wr.frozen? ⟨w.heap.size, 0, none⟩ = false := a7.frozen _;have z1 : wr.frozen? ⟨w.heap.size, 1, none⟩ = false := a7.frozen _;have z2 : wr.frozen? ⟨w.heap.size, 2, none⟩ = false := a7.frozen _;have z3 : wr.frozen? ⟨w.heap.size, 3, none⟩ = false := a7.frozen _;have z4 : wr.frozen? ⟨w.heap.size, 4, none⟩ = false := a7.frozen _;have z5 : wr.frozen? ⟨w.heap.size, 5, none⟩ = false := a7.frozen _;clear a7 hz hD C5;go_wp2_with fail
  (try simp only [Exit.inBlock, Exit.then])
  refine bodyPost_ret (v := .tuple #[.agg #[.int .i64 s.k, .int .i64 s.first, .int .i64 s.term, .slice Al rs.length cl, .slice Ae s.ends.length ce, .bool tn], .bool true]) (by rw [results_cell_tmp rfl]; go_simp <;> rfl) rfl ?_;have E8 := HG.out;have E9 := j6.out;have f7 : Below w.heap.size w wr := n9.out.trans (HB.out.mono (by omega));have D9 := HS.out;refine ⟨?_, _, by rw [HZ.out], ⟨_, _, _, _, _, _, _, _, _, _, rfl⟩, fun s' torn' h => ?_⟩
  ·iterate 6 (refine aU5 ?_ _ _ _ (lR _))
   exact f7
  rw [HD.out] at h;injection h with h
  injection h with e1 e2
  subst e1 e2;refine ⟨G, rs, _, _, by omega, ?_, rfl, a9.out.key, a9.out.first, a9.out.last, by have := a9.out.len.2; rw [g6.out.len] at this; omega, by have := a9.out.len.1; rw [g6.out.len] at this; omega⟩
  iterate 6 (refine aY5.setR ?_ _ _ _ (by omega))
  exact D9
 have i1 : i < (aH6 b).1.length := by rw [<- g6.out.len]; exact n8
 have m0 := Rd.at_ (aI0.rd g6.out) n8;obtain ⟨n6, D1, D0, q6⟩ := m0;subst D1;have hp := (g6.out.got i n8 i1).shape;obtain ⟨Ap, cp, hv, t9, m3, x5⟩ := hp;rw [hv] at q6;have m2 : wr.cell? (n6.add i) = some (.slice Ap ((aH6 b).1[i]).length cp) := (World.cell?_of_block (w := w1) (HB.out.block _ (by rw [aC5, HG.out]; exact D0))).trans q6;have m6 := l8 _ (lX i1);have x4 : (aH6 b).1[i]? = some ((aH6 b).1[i]) := lW i1;have i2 : Rd wr G Ap (cells ((aH6 b).1[i])) := by
  rw [HG.out];have := HB.out;rw [HG.out] at this;exact x5.below this
 have t8 : Rd w1 G Ap (cells ((aH6 b).1[i])) := by rw [HG.out]; exact x5
 generalize (aH6 b).1[i] = p at t8 t9 m6 x4 i2 m2
 have m9 := qZ x4;have p0 := qZ i2;have z7 := qZ t8;clear x4 i2 q6 hv x5 t8;have D6 : (i : Int) < (xs.length : Int) := by omega
 obtain ⟨Al, cl, y7, _⟩ := aC2 HS.out.ents;obtain ⟨Ae, ce, m7, _, _, _⟩ := Own.shape HS.out.ends;rw [lU] at m7;subst y7 m7;have E5 := qZ (m8.out.below HB.out (by rw [HG.out]; exact j6.out));have D7 : 0 < p.length -> ∀ ad, Ap = some ad -> ad.block ≠ G := fun h0 ad e => by
  obtain ⟨E6, e', n8, _⟩ := p0.out (by rw [aA2]; exact h0);rw [e] at e';injection e' with e'
  subst e';omega
 by_cases hi0 : i = 0
 ·subst hi0
  obtain ⟨rfl, rfl⟩ := a9.out.zero rfl;have D5 : wr.cell? n6 = some (.slice Ap p.length cp) := (show n6.add 0 = n6 by simp [Addr.add]) ▸ m2;have C4 := bT3 Ap p cp G 106 _ 0 0 wr (p0.out.more (by omega)) D7 t9 (by omega) m3 HS.out.blk rfl rfl;have B2 := qZ C4;clear C4;go_wp2_with fail
  refine B2.out.mono ?_;rintro e w2 ⟨rfl, q9, f, t, B4, hq⟩;have i3 := HS.out.headed q9 (f := f) (t := t) B4;have l5 : Below G w1 w2 := HB.out.grown q9 (by omega) (fun j hj => by injection hj with hj; omega);have a8 := qZ i3;have f8 := qZ l5;have HQ := qZ hq;clear B2 q9 B4 hq i3 l5;cases htk : aK1 p with
  | none =>
   have hN := RdI.headBad (k := k) m9.out htk;have HN := qZ hN;clear hN;have a7 := m8.out.below f8.out (by rw [HG.out]; exact j6.out);have hz : (aD0 k b).isSome = false := by rw [HN.out]; rfl
   have HZ := qZ hz;have g0 : w2.cell? ⟨G, 0, none⟩ = some (.int .i64 k) := a8.out.blk.cell 0;have g1 : w2.cell? ⟨G, 1, none⟩ = some (.int .i64 f) := a8.out.blk.cell 1;have g2 : w2.cell? ⟨G, 2, none⟩ = some (.int .i64 t) := a8.out.blk.cell 2;have g3 : w2.cell? ⟨G, 3, none⟩ = some (.slice Al _ cl) := a8.out.blk.cell 3;have g4 : w2.cell? ⟨G, 4, none⟩ = some (.slice Ae _ ce) := a8.out.blk.cell 4;have g5 : w2.cell? ⟨G, 5, none⟩ = some (.bool tn) := a8.out.blk.cell 5;have r0 : w2.cell? ⟨w.heap.size, 0, none⟩ = some _ := a7.cell 0;have r1 : w2.cell? ⟨w.heap.size, 1, none⟩ = some _ := a7.cell 1;have r2 : w2.cell? ⟨w.heap.size, 2, none⟩ = some _ := a7.cell 2;have r3 : w2.cell? ⟨w.heap.size, 3, none⟩ = some _ := a7.cell 3;have r4 : w2.cell? ⟨w.heap.size, 4, none⟩ = some _ := a7.cell 4;have r5 : w2.cell? ⟨w.heap.size, 5, none⟩ = some _ := a7.cell 5;have z0 : w2.frozen? ⟨w.heap.size, 0, none⟩ = false := a7.frozen _;have z1 : w2.frozen? ⟨w.heap.size, 1, none⟩ = false := a7.frozen _;have z2 : w2.frozen? ⟨w.heap.size, 2, none⟩ = false := a7.frozen _;have z3 : w2.frozen? ⟨w.heap.size, 3, none⟩ = false := a7.frozen _;have z4 : w2.frozen? ⟨w.heap.size, 4, none⟩ = false := a7.frozen _;have z5 : w2.frozen? ⟨w.heap.size, 5, none⟩ = false := a7.frozen _;clear a7 hz;go_wp2_with fail
   (try simp only [Exit.inBlock, Exit.then])
   refine bodyPost_ret (v := .tuple #[.agg #[.int .i64 k, .int .i64 f, .int .i64 t, .slice Al rs.length cl, .slice Ae 0 ce, .bool tn], .bool false]) (by rw [results_cell_tmp rfl]; go_simp <;> rfl) rfl ?_;refine ⟨?_, _, by rw [HZ.out], ⟨_, _, _, _, _, _, _, _, _, _, rfl⟩, fun s torn h => by rw [HN.out] at h; cases h⟩;have f7 : Below w.heap.size w w2 := n9.out.trans (f8.out.mono (by have := HG.out; omega));have E2 := f7.size
   repeat (first | exact f7 | refine aU5 ?_ _ _ _ (lR _))
  | some q =>
   obtain ⟨f', t'⟩ := q;have e := HQ.out _ htk;injection e with e1 e2
   subst e1 e2;have l7 := a9.out.head m9.out m6 htk;have g7 := qZ (z7.out.below f8.out);have r9 : G < w2.heap.size := a8.out.blk.lt;have f9 := aY8 Ap p cp w2 (g7.out.more (by omega)) (by omega);have i4 := qZ f9;clear f9;go_wp2_with fail
   refine i4.out.mono ?_;rintro e w3 ⟨v3, rfl, m4, g9⟩;obtain ⟨A3, c3, rfl, _, _, _⟩ := m4.shape;have d8 := a8.out.new g9;have l4 : Below G w1 w3 := f8.out.trans (g9.mono (by omega));have f9 := aF3 m6;have j8 := qZ l7;generalize (aF2 p).length = clo at f9 j8
   have D3 := a9.out.at_;have hw : IntKind.i64.wrap ((0 : Int) + (clo : Int)) = (0 : Int) + (clo : Int) := mH _ (by omega);have E1 : IntKind.i64.wrap (clo : Int) = (clo : Int) := mH _ (by omega);have g4 : w3.cell? ⟨G, 4, none⟩ = some (.slice Ae _ ce) := d8.blk.cell 4;have gz : w3.frozen? ⟨G, 4, none⟩ = false := d8.blk.frozen _;have p5 := qZ d8;have o7 := qZ l4;have s9 : G < w3.heap.size := d8.blk.lt;clear i4 m4 g9 d8 l4 l7;have j9 := qZ (p5.out.new ((lS _ w3).alloc (lR _) (.cells [Value.int .i64 (clo : Int)].toArray 3)));have o8 := qZ (o7.out.trans (((lS _ w3).alloc (lR _) (.cells [Value.int .i64 (clo : Int)].toArray 3)).mono (by omega)));have e9 : Rd (w3.alloc (.cells [Value.int .i64 (clo : Int)].toArray 3)) (w3.heap.size + 1) (some ⟨w3.heap.size, 0, none⟩) [Value.int .i64 (clo : Int)] := aG4 w3 3 [Value.int .i64 (clo : Int)];have g8 := qZ e9;have t7 := Nat.le_of_eq a9.out.len.1;have x6 := ((lS _ w3).alloc (lR _) (.cells [Value.int .i64 (clo : Int)].toArray 3)).size;clear e9;go_wp2_with (at_builtin; go_must (refine aB5 rfl (.tmp 58) (.tmp 60) 41 rfl (G + 1) 3 (.int .i64 0) 8 Tryz.underlying41 bH5 rfl _ _ rfl j9.out.ends (w3.heap.size + 1) (some ⟨w3.heap.size, 0, none⟩) 1 1 [.int .i64 (clo : Int)] rfl rfl g8.out (by simp [Value.oneCell']) (by unfold maxLen; simp <;> omega) (by simp <;> omega) (by omega) ?_; intro v4 w4 b8 m5 q8; obtain ⟨A4, c4, x8, q4, y4, l6, l9⟩ := bF9 j9.out o8.out b8 m5; subst x8; have i6 := qZ (And.intro l6 l9); clear b8 m5 q8 l6 l9))
   go_roundw
   case rel => exact ⟨1, (clo : Int), _, rs, _, _, by omega, rfl, rfl, j8, p4, qZ i6.out.1, qZ i6.out.2⟩
   case measure => simp [intOf]; omega
 have C0 : 0 < i := by omega
 have G2 : ((i : Int) == 0) = false := by simp; omega
 have G3 : (0 : Int) < (i : Int) := by omega
 have G6 := a9.out.len.2;have C3 := bO2 Ap p cp G wr HS.out p0.out t9 (by omega) m3 (by have := a9.out.first; omega) (by rw [p4.out]; omega) (by have := a9.out.last; omega);have B1 := qZ C3;clear C3;go_wp2_with fail
 refine B1.out.mono ?_;rintro e w2 ⟨rfl, f7, C1, C2⟩;have f8 := qZ (HB.out.trans f7);have C7 := qZ C1;have C8 := qZ C2;clear B1 f7 C1 C2;cases htk : aH9 p s.last.1 with
 | none =>
  have HN := qZ (a9.out.entryBad C0 m9.out htk);have a8 := qZ (C7.out htk);have a7 := m8.out.below f8.out (by rw [HG.out]; exact j6.out);have hz : (aD0 k b).isSome = false := by rw [HN.out]; rfl
  have HZ := qZ hz;have g0 : w2.cell? ⟨G, 0, none⟩ = some (.int .i64 s.k) := a8.out.blk.cell 0;have g1 : w2.cell? ⟨G, 1, none⟩ = some (.int .i64 s.first) := a8.out.blk.cell 1;have g2 : w2.cell? ⟨G, 2, none⟩ = some (.int .i64 s.term) := a8.out.blk.cell 2;have g3 : w2.cell? ⟨G, 3, none⟩ = some (.slice Al _ cl) := a8.out.blk.cell 3;have g4 : w2.cell? ⟨G, 4, none⟩ = some (.slice Ae _ ce) := a8.out.blk.cell 4;have g5 : w2.cell? ⟨G, 5, none⟩ = some (.bool tn) := a8.out.blk.cell 5;have r0 : w2.cell? ⟨w.heap.size, 0, none⟩ = some _ := a7.cell 0;have r1 : w2.cell? ⟨w.heap.size, 1, none⟩ = some _ := a7.cell 1;have r2 : w2.cell? ⟨w.heap.size, 2, none⟩ = some _ := a7.cell 2;have r3 : w2.cell? ⟨w.heap.size, 3, none⟩ = some _ := a7.cell 3;have r4 : w2.cell? ⟨w.heap.size, 4, none⟩ = some _ := a7.cell 4;have r5 : w2.cell? ⟨w.heap.size, 5, none⟩ = some _ := a7.cell 5;have z0 : w2.frozen? ⟨w.heap.size, 0, none⟩ = false := a7.frozen _;have z1 : w2.frozen? ⟨w.heap.size, 1, none⟩ = false := a7.frozen _;have z2 : w2.frozen? ⟨w.heap.size, 2, none⟩ = false := a7.frozen _;have z3 : w2.frozen? ⟨w.heap.size, 3, none⟩ = false := a7.frozen _;have z4 : w2.frozen? ⟨w.heap.size, 4, none⟩ = false := a7.frozen _;have z5 : w2.frozen? ⟨w.heap.size, 5, none⟩ = false := a7.frozen _;clear a7 hz;go_wp2_with fail
  (try simp only [Exit.inBlock, Exit.then])
  refine bodyPost_ret (v := .tuple #[.agg #[.int .i64 s.k, .int .i64 s.first, .int .i64 s.term, .slice Al rs.length cl, .slice Ae s.ends.length ce, .bool tn], .bool false]) (by rw [results_cell_tmp rfl]; go_simp <;> rfl) rfl ?_;refine ⟨?_, _, by rw [HZ.out], ⟨_, _, _, _, _, _, _, _, _, _, rfl⟩, fun s torn h => by rw [HN.out] at h; cases h⟩;have f7 : Below w.heap.size w w2 := n9.out.trans (f8.out.mono (by have := HG.out; omega));have E2 := f7.size
  repeat (first | exact f7 | refine aU5 ?_ _ _ _ (lR _))
 | some q =>
  obtain ⟨vq, G9, i3⟩ := C8.out q htk;obtain ⟨E3, E7, y8, _⟩ := aC2 i3.ents;subst y8;have a8 := qZ i3;clear i3;have l7 := a9.out.entry C0 m9.out m6 htk;have g7 := qZ (z7.out.below f8.out);have r9 : G < w2.heap.size := a8.out.blk.lt;have f9 := aY8 Ap p cp w2 (g7.out.more (by omega)) (by omega);have i4 := qZ f9;clear f9;go_wp2_with fail
  refine i4.out.mono ?_;rintro e w3 ⟨v3, rfl, m4, g9⟩;obtain ⟨A3, c3, rfl, _, _, _⟩ := m4.shape;have d8 := a8.out.new g9;have l4 : Below G w1 w3 := f8.out.trans (g9.mono (by omega));have f9 := aF3 m6;have j8 := qZ l7;generalize (aF2 p).length = clo at f9 j8
  have D3 := a9.out.at_;have hw : IntKind.i64.wrap (a + (clo : Int)) = a + (clo : Int) := mH _ (by omega);have E1 : IntKind.i64.wrap (clo : Int) = (clo : Int) := mH _ (by omega);have g4 : w3.cell? ⟨G, 4, none⟩ = some (.slice Ae _ ce) := d8.blk.cell 4;have gz : w3.frozen? ⟨G, 4, none⟩ = false := d8.blk.frozen _;have p5 := qZ d8;have o7 := qZ l4;have s9 : G < w3.heap.size := d8.blk.lt;clear i4 m4 g9 d8 l4 l7;have j9 := qZ (p5.out.new ((lS _ w3).alloc (lR _) (.cells [Value.int .i64 (a + (clo : Int))].toArray 3)));have o8 := qZ (o7.out.trans (((lS _ w3).alloc (lR _) (.cells [Value.int .i64 (a + (clo : Int))].toArray 3)).mono (by omega)));have e9 : Rd (w3.alloc (.cells [Value.int .i64 (a + (clo : Int))].toArray 3)) (w3.heap.size + 1) (some ⟨w3.heap.size, 0, none⟩) [Value.int .i64 (a + (clo : Int))] := aG4 w3 3 [Value.int .i64 (a + (clo : Int))];have g8 := qZ e9;have t7 := Nat.le_of_eq a9.out.len.1;have x6 := ((lS _ w3).alloc (lR _) (.cells [Value.int .i64 (a + (clo : Int))].toArray 3)).size;clear e9;go_wp2_with (at_builtin; go_must (refine aB5 rfl (.tmp 58) (.tmp 60) 41 rfl (G + 1) 3 (.int .i64 0) 8 Tryz.underlying41 bH5 rfl _ _ rfl j9.out.ends (w3.heap.size + 1) (some ⟨w3.heap.size, 0, none⟩) 1 1 [.int .i64 (a + (clo : Int))] rfl rfl g8.out (by simp [Value.oneCell']) (by unfold maxLen; simp <;> omega) (by simp <;> omega) (by omega) ?_; intro v4 w4 b8 m5 q8; obtain ⟨A4, c4, x8, q4, y4, l6, l9⟩ := bF9 j9.out o8.out b8 m5; subst x8; have i6 := qZ (And.intro l6 l9); clear b8 m5 q8 l6 l9))
  go_roundw
  case rel => exact ⟨i + 1, a + (clo : Int), _, rs ++ [_], _, _, by omega, by go_num, rfl, j8, qZ (by rw [lT, lT, p4.out]; rfl), qZ i6.out.1, qZ i6.out.2⟩
  case measure => simp [intOf]; omega
end
section
open Go.RowKit Oct
theorem cY1 {w : World} {base g n c i : Nat} {e : TypeId} {size : Nat} {xs : List Value} (h : w.ownsRow base e size (.slice (some ⟨g, 0, none⟩) n c) n xs) (u : Value) : (w.setCell ⟨g, i, none⟩ u).ownsRow base e size (.slice (some ⟨g, 0, none⟩) n c) n (xs.set i u) := by
 rcases h.2 with ⟨hv, _⟩ | ⟨g', cap, a7, hv, hb, hg, hn, hm, hs, ht⟩
 ·cases hv
 injection hv with e1 _ e3
 injection e1 with e1
 injection e1 with e1 _ _
 subst e1 e3;refine ⟨by rw [List.length_set]; exact h.1, .inr ⟨g, c, a7.setIfInBounds i u, rfl, hb, Blk.set_ hg i u, hn, hm, by simp [hs], ?_⟩⟩;rw [Array.toList_setIfInBounds, List.take_set, ht]
theorem bJ4 : ∀ (l : List aD8) {k : Nat} (hk : k < l.length) (v : Value), (aA7 l).set (k * 4 + 3) v = aA7 (l.set k ⟨v, l[k].e⟩)
 | [], k, hk, v => by simp at hk
 | x :: r, 0, hk, v => rfl
 | x :: r, k + 1, hk, v => by
  have ih := bJ4 r (k := k) (by simpa using hk) v;have e1 : aA7 (x :: r) = aM6 x ++ aA7 r := by unfold aA7; rw [List.flatMap_cons]
  rw [e1, List.set_append_right _ _ (by simp [aM6]; omega)];have e2 : (k + 1) * 4 + 3 - (aM6 x).length = k * 4 + 3 := by simp [aM6]; omega
  rw [e2, ih, List.set_cons_succ];unfold aA7;rw [List.flatMap_cons]
  rfl
theorem bK8 {F : Nat -> Prop} (A : Option Addr) (rs : List aD8) (c : Nat) (w : World) (hr : RdF w F A (aA7 rs)) (hd : ∀ q ∈ rs, bB7 w F q.v q.e.b) (hF : ∀ k, F k -> k < w.heap.size) (hn : rs.length <= 1099511627776) (hl : ∀ q ∈ rs, q.e.b.length <= 140737488351232) :
  Calls Tryz.prog 64 #[.slice A rs.length c] w fun e w' => ∃ v rs', e = .returned v ∧ w'.ownsRow w.heap.size 65 4 v rs.length (aA7 rs') ∧ rs'.map aD8.e = rs.map aD8.e ∧ (∀ q ∈ rs', Bs w' w.heap.size q.v q.e.b) ∧ Below w.heap.size w w' := by
 have d8 : ∀ u ∈ aA7 rs, u.oneCell' = true := by
  intro u hu;obtain ⟨q, hq, h⟩ := List.mem_flatMap.1 hu;obtain ⟨Aq, cq, hv, _⟩ := hd q hq;unfold aM6 at h;simp only [List.mem_cons, List.not_mem_nil, or_false] at h;rcases h with rfl | rfl | rfl | rfl
  ·rfl
  ·rfl
  ·rfl
  rw [hv]; rfl
 have i2 := qZ (bK4 A rs.length c (aA7 rs) w hr.rd (by rw [aC0]; omega) d8 hn);have HD := qZ hd;have HF := qZ hF;have HL := qZ hl;clear hr hd hF d8 hl;go_enter Tryz.func64, Tryz.ntmps64
 go_wp2_with fail
 refine i2.out.mono ?_;rintro e w1 ⟨v1, rfl, i1, f9⟩;obtain ⟨A1, c1, rfl, k1, k2, k3⟩ := aC2 i1;have m9 := f9.size;have m3 := qZ i1;have l8 := qZ f9;clear i1 f9 i2 k3;go_wp2_with fail
 go_loopw [9, 4] (fun i _ wr => ∃ (k : Nat) (ra : List aD8), k <= rs.length ∧ i = .int .i64 k ∧ Hid (ra.length = k) ∧ Hid (ra.map aD8.e = (rs.take k).map aD8.e) ∧ Hid (wr.ownsRow w.heap.size 65 4 (.slice A1 rs.length c1) rs.length (aA7 (ra ++ rs.drop k))) ∧ Hid (∀ q ∈ ra, Bs wr w.heap.size q.v q.e.b) ∧ Hid (Below w.heap.size w wr)) (fun i _ _ => rs.length - (intOf i).toNat)
 case atStart => exact ⟨0, [], by omega, rfl, qZ rfl, qZ rfl, m3, qZ (fun q hq => by cases hq), l8⟩
 obtain ⟨k, ra, hk, rfl, a9, i4, HO, HQ, HB⟩ := hrel;have g9 := HB.out.size;by_cases hlt : k < rs.length
 rotate_left
 ·obtain rfl : k = rs.length := by omega
  go_wp2_with fail
  go_ret
  have h1 := HO.out;have h2 := i4.out;rw [List.drop_length, List.append_nil] at h1;rw [List.take_length] at h2;exact ⟨_, ra, rfl, h1, h2, HQ.out, HB.out⟩
 obtain ⟨Ax, cx, hv, h1, h2, h3⟩ := aC2 HO.out;obtain ⟨gr, m4, rfl, m5, l4, j9, m6, j8⟩ := h3 (by omega);injection hv with hv hv2 f7
 subst hv f7;clear hv2;obtain ⟨q, hq⟩ : ∃ q, q = rs[k] := ⟨_, rfl⟩
 have g8 : q ∈ rs := by rw [hq]; exact lX hlt
 have g6 : rs.drop k = q :: rs.drop (k + 1) := by rw [hq]; exact List.drop_eq_getElem_cons hlt
 obtain ⟨Aq, cq, l7, m7, m8, l6⟩ := HD.out q g8;have a8 : k < (ra ++ rs.drop k).length := by rw [lT, a9.out, lZ]; omega
 have g7 : (ra ++ rs.drop k)[k] = q := by
  rw [List.getElem_append_right (by rw [a9.out]; omega)];simp only [g6, a9.out, Nat.sub_self, List.getElem_cons_zero]
 have c3 : wr.cell? ⟨gr, k * 4 + 3, none⟩ = some (.slice Aq q.e.b.length cq) := by
  refine j8 _ _ ?_;rw [aE6 _ a8 (by omega), g7, <- l7]
  rfl
 have z3 : wr.frozen? ⟨gr, k * 4 + 3, none⟩ = false := by simp [World.frozen?, j9]
 have HC := qZ (aU7 Aq q.e.b q.e.b.length cq rfl wr ((l6.keep g9 (fun k hk => HB.out.block k (HF.out k hk))).rd) (HL.out q g8));obtain ⟨nb, l5⟩ : ∃ n, n = q.e.b.length := ⟨_, rfl⟩
 have e9 : (aA7 (ra ++ rs.drop k)).set (k * 4 + 3) = fun v => aA7 ((ra ++ [⟨v, q.e⟩]) ++ rs.drop (k + 1)) := by
  funext v
  rw [bJ4 _ a8, g7, List.set_append_right _ _ (by rw [a9.out]; omega), a9.out, Nat.sub_self, g6, List.set_cons_zero];simp
 have m2 := qZ e9;have b8 : (rs.take (k + 1)).map aD8.e = (rs.take k).map aD8.e ++ [q.e] := by
  rw [List.take_add_one, lW hlt, <- hq];simp
 have m0 := qZ b8;rw [<- l5] at c3 HC;clear e9 b8 hq g8 g6 l6 a8 g7 h3 j9 m6 j8 l7 l5 m4;go_wp2_with fail
 refine HC.out.mono ?_;rintro e w3 ⟨v3, rfl, f7, a7⟩;obtain ⟨A3, j6, rfl, y1, y2, y3⟩ := aD5 f7;have n6 := a7.size;have d3 : w3.cell? ⟨gr, k * 4 + 3, none⟩ = some (.slice Aq nb cq) := (a7.cell (p := ⟨gr, k * 4 + 3, none⟩) l4).trans c3;have e3 : w3.frozen? ⟨gr, k * 4 + 3, none⟩ = false := by
  simp only [World.frozen?] at z3 ⊢;rw [a7.block gr l4];exact z3
 have f8 := qZ (aL1 HO.out a7);have i3 := qZ (fun q hq => Own.below (HQ.out q hq) a7 (lR _));have l9 := qZ (HB.out.trans (a7.mono g9));have i6 := qZ (Own.mono f7 g9);clear c3 z3 a7 f7 y3 HC HO HQ HB;go_wp2_with fail
 go_roundw
 case rel =>
  refine ⟨k + 1, ra ++ [⟨.slice A3 q.e.b.length j6, q.e⟩], by omega, by go_num, qZ (by rw [lT, a9.out]; rfl), qZ ?_, qZ ?_, qZ ?_, qZ (aU5 l9.out _ _ _ m5)⟩
  ·rw [m0.out, mE, i4.out]; rfl
  ·have := cY1 (i := k * 4 + 3) f8.out (.slice A3 q.e.b.length j6)
   rw [m2.out] at this;exact this
  intro x hx;rcases List.mem_append.1 hx with hx | hx
  ·exact Own.kept (i3.out x hx) (aA0 w3 gr (k * 4 + 3) _) (jrow_type_ne (i3.out x hx) f8.out (by decide))
  obtain rfl := List.mem_singleton.1 hx;exact Own.kept i6.out (aA0 w3 gr (k * 4 + 3) _) (jrow_type_ne i6.out f8.out (by decide))
 case measure => simp [intOf]; omega
theorem bD8 {P : Program} {w : World} {ops : Array Oper} {rest : List Oper} {o : Oper} {a : Act} {Q : Exit -> Act -> World -> Prop} (f7 : o.guard = none) (s x : Operand) (t : TypeId)
  (ho : o.op = .call { callee := .builtin .append, args := #[s, x], argTypes := #[t, t] })
  (base : Nat) (e : TypeId) (z : Value) (size bytes : Nat) (ht : P.underlying t = some (.slice e)) (a7 : (P.info? e).map (fun i => (i.zero, i.size, i.bytes)) = some (some z, size, bytes)) (g7 : z.cells.size = size) (g6 : 0 < size)
  (v : Value) (n : Nat) (xs : List Value) (hs : a.eval s = v) (a9 : w.ownsRow base e size v n xs)
  (A : Option Addr) (m c : Nat) (news : List Value) (hx : a.eval x = .slice A m c) (hl : news.length = m * size) (d8 : 0 < m -> ∃ ad, A = some ad ∧ ∀ j u, news[j]? = some u -> w.cell? (ad.add j) = some u) (h1 : ∀ u ∈ news, u.oneCell' = true)
  (f9 : n + m <= maxLen) (a8 : (n + m) * bytes <= 140737488355328) (b8 : base <= w.heap.size)
  (h : ∀ v' w', w'.ownsRow base e size v' (n + m) (xs ++ news) -> w.grownBy w' v.ownBlock -> wpList P ops Q rest (a.put o.dst v') w') : wpList P ops Q (o :: rest) a w := by
 rcases Nat.eq_zero_or_pos m with hm | hm
 ·subst hm
  have hn : news = [] := mD (by simpa using hl);subst hn;obtain ⟨i, hi, hz, f8, g8⟩ := info_parts a7;have e9 := aT5 (P := P) w base t o.type e i size ht hi v n xs a9 A c;refine wpList_plain f7 fun _ hK => ?_
  unfold Oper.wp execOp;simp only [ho, resolve, invoke, builtin, Sem.run_bind, Sem.run_pure, Result.andThen_ok, List.map_toArray, mG, List.map_nil, hs, hx, e9];refine hK _ _ (h v w ?_ (World.grownBy.refl _ _));rw [List.append_nil];exact a9
 obtain ⟨ad, rfl, hc⟩ := d8 hm;exact aQ9 f7 s x t ho base e z size bytes ht a7 g7 g6 v n xs hs a9 ad m c news hx hl hc h1 f9 a8 b8 fun v' w' h2 h3 _ => h v' w' h2 h3
theorem cD9 {w : World} {B : Nat} {rs : List aD8} (h : ∀ q ∈ rs, Bs w B q.v q.e.b) : ∀ u ∈ aA7 rs, u.oneCell' = true := by
 intro u hu;obtain ⟨q, hq, hx⟩ := List.mem_flatMap.1 hu;obtain ⟨Aq, cq, hv, _⟩ := aD5 (h q hq);unfold aM6 at hx;simp only [List.mem_cons, List.not_mem_nil, or_false] at hx;rcases hx with rfl | rfl | rfl | rfl
 ·rfl
 ·rfl
 ·rfl
 rw [hv]; rfl
theorem JAt.entries {F : Nat -> Prop} {gj g : Nat} {j : JnP} {w : World} (h : JAt w F gj g j) (hF : ∀ k, F k -> k < w.heap.size) (hn : j.ents.length <= 1099511627776) :
  Calls Tryz.prog 18 #[.pointer (some ⟨gj, 0, none⟩)] w fun e w' => ∃ v a7, e = .returned v ∧ w'.ownsRow w.heap.size 65 4 v a7.length (aA7 a7) ∧ a7.map aD8.e = j.ents ∧ (∀ q ∈ a7, Bs w' w.heap.size q.v q.e.b) ∧ Below w.heap.size w w' := by
 obtain ⟨⟨A, c, n7, h1, h2, h3, h4, h5⟩, h6, _⟩ := h;have c2 : w.cell? ⟨gj, 2, none⟩ = some (.slice A j.segs.length c) := h1.cell 2;have H3 := qZ h3;have H4 := qZ h4;have H5 := qZ h5;have HF := qZ hF;have HN := qZ hn;clear h1 h2 h3 h4 h5 hF hn;go_enter Tryz.func18, Tryz.ntmps18
 go_wp2_with fail
 go_loopw [11, 3, 5] (fun i v _ wr => ∃ (k : Nat) (ro : List aD8), k <= j.segs.length ∧ i = .int .i64 k ∧ Hid (wr.ownsRow w.heap.size 65 4 v ro.length (aA7 ro)) ∧ Hid (ro.map aD8.e = ((j.segs.take k).map aB1.l).flatten) ∧ Hid (∀ q ∈ ro, Bs wr w.heap.size q.v q.e.b) ∧ Hid (Below w.heap.size w wr)) (fun i _ _ _ => j.segs.length - (intOf i).toNat)
 case atStart => exact ⟨0, [], by omega, rfl, qZ (World.ownsRow_nil _ _ _ _), qZ rfl, qZ (fun q hq => by cases hq), qZ (lS _ _)⟩
 obtain ⟨k, ro, hk, rfl, HO, HE, HQ, HB⟩ := hrel;have i4 := HB.out.size;obtain ⟨Av, cv, hv, hx⟩ := aC2 HO.out;subst hv;clear hx;by_cases hlt : k < j.segs.length
 rotate_left
 ·obtain rfl : k = j.segs.length := by omega
  go_wp2_with fail
  go_ret
  have h2 := HE.out;rw [List.take_length] at h2;exact ⟨_, ro, rfl, HO.out, h2, HQ.out, HB.out⟩
 have g8 : k < n7.length := by rw [H4.out]; exact hlt
 obtain ⟨ab, ao, rfl, p4, n8, l8⟩ := H3.out (by rw [lU]; omega);obtain ⟨sg, i3⟩ : ∃ s, s = j.segs[k] := ⟨_, rfl⟩
 have hM := H5.out k g8 hlt;rw [<- i3] at hM;have l6 := hM.keep (w' := wr) i4 (fun k hk => HB.out.block k (HF.out k hk));obtain ⟨b, o, Al, cl, rs, Ae, ce, l7, p0, n9, d0, d1, d2, d3, d4, _, m0, a8, f8, _⟩ := l6.rd.cells;have e0 : wr.cell? ⟨ab, ao + k, none⟩ = some (.pointer (some ⟨b, o, none⟩)) := (HB.out.cell (p := ⟨ab, ao + k, none⟩) n8).trans (l8 k _ (by rw [List.getElem?_map, lW g8, l7]; rfl));have f9 : rs.length = sg.l.length := by rw [<- a8, lU]
 have d8 := hM.len;rw [<- f9] at d3 d8;have HC := qZ (bK8 Al rs cl wr m0 f8 (fun k hk => by have := HF.out k hk; omega) d8 (fun q hq => by have := hM.txt q.e (by rw [<- a8]; exact List.mem_map.2 ⟨q, hq, rfl⟩); omega));have i6 : ((j.segs.take (k + 1)).map aB1.l).flatten = ((j.segs.take k).map aB1.l).flatten ++ sg.l := by
  rw [List.take_add_one, lW hlt, <- i3];simp
 have j6 : ro.length + rs.length <= 1099511627776 := by
  have e1 : ro.length = (((j.segs.take k).map aB1.l).flatten).length := by rw [<- HE.out, lU]
  have e2 : (((j.segs.take (k + 1)).map aB1.l).flatten).length <= j.ents.length := by
   unfold JnP.ents;rw [show j.segs = j.segs.take (k + 1) ++ j.segs.drop (k + 1) from (List.take_append_drop _ _).symm, mE, List.flatten_append, lT, List.take_append_drop];omega
  rw [i6, lT] at e2;have := HN.out;omega
 have m9 := qZ i6;have m4 := qZ a8;obtain ⟨nr, i1⟩ : ∃ n, n = rs.length := ⟨_, rfl⟩
 rw [<- i1] at d3 HC j6;have m5 := qZ i1;clear i6 a8 i3 hM l6 l7 d0 d1 d2 d4 m0 f8 f9 d8 l8 i1 g8;go_wp2_with fail
 refine HC.out.mono ?_;rintro e w3 ⟨v3, a7, rfl, j8, g9, i2, f7⟩;obtain ⟨A3, c3, rfl, y1, y2, y3⟩ := aC2 j8;have p5 := f7.size;have g6 := qZ (aL1 HO.out f7);have l4 := qZ (fun q hq => Own.below (HQ.out q hq) f7 (lR _));have j9 := qZ (HB.out.trans (f7.mono i4));have e9 : a7.length = nr := by rw [m5.out, <- lU aD8.e, g9, lU]
 have n6 : Hid (0 < nr -> ∃ ad, A3 = some ad ∧ ∀ j u, (aA7 a7)[j]? = some u -> w3.cell? (ad.add j) = some u) := qZ (fun h0 => by
  obtain ⟨g3, o9, e, _, _, _, _, hc⟩ := y3 h0;refine ⟨_, e, fun j u hu => ?_⟩;rw [add_lit, Nat.zero_add];exact hc j u hu)
 have m3 := qZ g9;have l5 := qZ (fun q hq => Own.mono (i2 q hq) i4);have m7 := qZ (cD9 i2);have m8 := qZ e9;have a9 : (aA7 a7).length = nr * 4 := by rw [aC0, e9]; omega
 have m2 := qZ a9;have o7 := j9.out.size;have o8 := qZ j8;clear f7 j8 g9 i2 y3 HC HO HQ HB e9 a9;go_wp2_with (at_builtin; go_must (refine bD8 rfl (.tmp 15) (.tmp 20) 40 rfl w.heap.size 65 (.agg #[.int .i64 0, .int .i64 0, .int .i64 0, .slice none 0 0]) 4 48 Tryz.underlying40 aI8 rfl (by decide) _ ro.length (aA7 ro) rfl g6.out A3 nr c3 (aA7 a7) rfl m2.out n6.out m7.out (by unfold maxLen; omega) (by omega) (by omega) ?_; intro v6 w6 b8 l9; have m6 := qZ b8; have g7 := qZ l9; clear b8 l9))
 go_roundw
 case rel =>
  refine ⟨k + 1, ro ++ a7, by omega, by go_num, qZ ?_, qZ ?_, qZ ?_, qZ (j9.out.grown g7.out o7 (fun k hk => (World.ownsRow.lt g6.out k hk).1))⟩
  ·rw [lT, aJ6, m8.out]
   exact m6.out
  ·rw [mE, HE.out, m3.out, m9.out, m4.out]
  intro x hx;rcases List.mem_append.1 hx with hx | hx
  ·exact Own.kept (l4.out x hx) g7.out (jrow_type_ne (l4.out x hx) g6.out (by decide))
  exact Own.kept (l5.out x hx) g7.out (jrow_type_ne (l5.out x hx) g6.out (by decide))
 case measure => simp [intOf]; omega
end
section
open Go.RowKit Go.Maps Oct
def eqE (x y : aF9) : Bool := (x.ix == y.ix) && (x.tm == y.tm) && (x.kd == y.kd) && (x.b == y.b)
def aP6 : List aF9 -> List aF9 -> Bool
 | [], [] => true
 | x :: r, y :: s => eqE x y && aP6 r s
 | _, _ => false
theorem cS7 (x y : aF9) : eqE x y = true ↔ x = y := by
 obtain ⟨a, b, c, d⟩ := x;obtain ⟨a', b', c', d'⟩ := y;unfold eqE;simp only [Bool.and_eq_true, beq_iff_eq, aF9.mk.injEq];constructor
 ·rintro ⟨⟨⟨h1, h2⟩, h3⟩, h4⟩; exact ⟨h1, h2, h3, h4⟩
 rintro ⟨h1, h2, h3, h4⟩; exact ⟨⟨⟨h1, h2⟩, h3⟩, h4⟩
theorem bB2 : ∀ a b : List aF9, aP6 a b = true ↔ a = b
 | [], [] => by simp [aP6]
 | [], _ :: _ => by simp [aP6]
 | _ :: _, [] => by simp [aP6]
 | x :: r, y :: s => by
  unfold aP6;rw [Bool.and_eq_true, cS7, bB2 r s];constructor
  ·rintro ⟨h1, h2⟩; rw [h1, h2]
  intro h; injection h with h1 h2; exact ⟨h1, h2⟩
theorem cY4 {a b : List aF9} (h : a.length ≠ b.length) : aP6 a b = false := by
 cases hs : aP6 a b with
 | false => rfl
 | true => exact absurd (congrArg List.length ((bB2 a b).1 hs)) h
theorem cP2 {a b : List aF9} {k : Nat} (ha : k < a.length) (hb : k < b.length) : aP6 (a.drop k) (b.drop k) = (eqE a[k] b[k] && aP6 (a.drop (k + 1)) (b.drop (k + 1))) := by
 rw [List.drop_eq_getElem_cons ha, List.drop_eq_getElem_cons hb]
 rfl
theorem bL1 {F E : Nat -> Prop} (A B : Option Addr) (ra rb : List aD8) (c d : Nat) (w : World) (ha : RdF w F A (aA7 ra)) (hb : RdF w E B (aA7 rb)) (da : ∀ q ∈ ra, bB7 w F q.v q.e.b) (db : ∀ q ∈ rb, bB7 w E q.v q.e.b) (hF : ∀ k, F k -> k < w.heap.size) (hE : ∀ k, E k -> k < w.heap.size) (hl : ra.length <= 1099511627776) (p4 : rb.length <= 1099511627776) (l8 : ∀ q ∈ ra, q.e.b.length <= 140737488351232) (l9 : ∀ q ∈ rb, q.e.b.length <= 140737488351232) :
  Calls Tryz.prog 23 #[.slice A ra.length c, .slice B rb.length d] w fun e w' => e = .returned (.bool (aP6 (ra.map aD8.e) (rb.map aD8.e))) ∧ Below w.heap.size w w' := by
 obtain ⟨L, hL⟩ : ∃ l, l = ra.map aD8.e := ⟨_, rfl⟩
 obtain ⟨M, hM⟩ : ∃ l, l = rb.map aD8.e := ⟨_, rfl⟩
 have l6 : L.length = ra.length := by rw [hL, lU]
 have l7 : M.length = rb.length := by rw [hM, lU]
 rw [<- hL, <- hM];obtain ⟨R, hR⟩ : ∃ r, r = aP6 L M := ⟨_, rfl⟩
 rw [<- hR];have HA := qZ ha;have HB := qZ hb;have m7 := qZ da;have m8 := qZ db;have HF := qZ hF;have HE := qZ hE;have m9 := qZ l8;have n6 := qZ l9;have HL := qZ hL;have HM := qZ hM;have g9 := qZ l6;have i1 := qZ l7;have HR := qZ hR;clear ha hb da db hF hE l8 l9 hL hM l6 l7 hR;go_enter Tryz.func23, Tryz.ntmps23
 by_cases hne : ra.length = rb.length
 rotate_left
 ·have m2 : ((ra.length : Int) != (rb.length : Int)) = true := bne_iff_ne.2 (by omega)
  have e9 := qZ (show R = false by rw [HR.out]; exact cY4 (by rw [g9.out, i1.out]; exact hne));clear hne;go_wp2_with fail
  go_ret
  exact ⟨by rw [e9.out]; rfl, lS _ _⟩
 have m2 : ((ra.length : Int) != (rb.length : Int)) = false := by rw [bne_eq_false_iff_eq]; omega
 have l5 := qZ hne;clear hne;go_wp2_with fail
 go_loopw [5] (fun i wr => ∃ k : Nat, k <= ra.length ∧ i = .int .i64 k ∧ Hid (R = aP6 (L.drop k) (M.drop k)) ∧ Hid (Below w.heap.size w wr)) (fun i _ => ra.length - (intOf i).toNat)
 case atStart => exact ⟨0, by omega, rfl, qZ (by rw [HR.out]; rfl), qZ (lS _ _)⟩
 obtain ⟨k, hk, rfl, g8, a8⟩ := hrel;by_cases hlt : k < ra.length
 rotate_left
 ·have n8 := qZ (show R = true by rw [g8.out, List.drop_eq_nil_of_le (by rw [g9.out]; omega), List.drop_eq_nil_of_le (by rw [i1.out, <- l5.out]; omega)]; rfl)
  clear g8;go_wp2_with fail
  go_ret
  exact ⟨by rw [n8.out]; rfl, a8.out⟩
 have f7 : k < rb.length := by rw [<- l5.out]; exact hlt
 have kF : ∀ q, F q -> wr.heap[q]? = w.heap[q]? := fun q hq => a8.out.block q (HF.out q hq)
 have kE : ∀ q, E q -> wr.heap[q]? = w.heap[q]? := fun q hq => a8.out.block q (HE.out q hq)
 obtain ⟨ga, oa, rfl, _, o9, g6⟩ := (HA.out.keep a8.out.size kF) (by rw [aC0]; omega);obtain ⟨gb, ob, rfl, _, p0, g7⟩ := (HB.out.keep a8.out.size kE) (by rw [aC0]; omega);have a9 : ∀ i, i < 4 -> (aA7 ra)[k * 4 + i]? = (aM6 ra[k])[i]? := fun i hi => aE6 _ hlt hi
 have b8 : ∀ i, i < 4 -> (aA7 rb)[k * 4 + i]? = (aM6 rb[k])[i]? := fun i hi => aE6 _ f7 hi
 obtain ⟨Av, ca, m5, _, _, m3⟩ := (m7.out ra[k] (lX hlt)).keep a8.out.size kF;obtain ⟨Bv, cb, m6, _, _, m4⟩ := (m8.out rb[k] (lX f7)).keep a8.out.size kE;have n9 := m9.out ra[k] (lX hlt);have o7 := n6.out rb[k] (lX f7);have a7 : R = (eqE ra[k].e rb[k].e && aP6 (L.drop (k + 1)) (M.drop (k + 1))) := by
  rw [g8.out, cP2 (by rw [g9.out]; exact hlt) (by rw [i1.out]; exact f7)];simp only [HL.out, HM.out, List.getElem_map]
 have a0 : wr.cell? ⟨ga, oa + k * 4, none⟩ = some (.int .i64 ra[k].e.ix) := g6 (k * 4 + 0) _ (by rw [a9 0 (by omega)]; rfl);have a1 : wr.cell? ⟨ga, oa + k * 4 + 1, none⟩ = some (.int .i64 ra[k].e.tm) := g6 (k * 4 + 1) _ (by rw [a9 1 (by omega)]; rfl);have a2 : wr.cell? ⟨ga, oa + k * 4 + 2, none⟩ = some (.int .i64 ra[k].e.kd) := g6 (k * 4 + 2) _ (by rw [a9 2 (by omega)]; rfl);have a3 : wr.cell? ⟨ga, oa + k * 4 + 3, none⟩ = some (.slice Av ra[k].e.b.length ca) := g6 (k * 4 + 3) _ (by rw [a9 3 (by omega), <- m5]; rfl);have b0 : wr.cell? ⟨gb, ob + k * 4, none⟩ = some (.int .i64 rb[k].e.ix) := g7 (k * 4 + 0) _ (by rw [b8 0 (by omega)]; rfl);have b1 : wr.cell? ⟨gb, ob + k * 4 + 1, none⟩ = some (.int .i64 rb[k].e.tm) := g7 (k * 4 + 1) _ (by rw [b8 1 (by omega)]; rfl);have b2 : wr.cell? ⟨gb, ob + k * 4 + 2, none⟩ = some (.int .i64 rb[k].e.kd) := g7 (k * 4 + 2) _ (by rw [b8 2 (by omega)]; rfl);have b3 : wr.cell? ⟨gb, ob + k * 4 + 3, none⟩ = some (.slice Bv rb[k].e.b.length cb) := g7 (k * 4 + 3) _ (by rw [b8 3 (by omega), <- m6]; rfl);have f8 := m3.rd;have f9 := m4.rd;unfold eqE at a7;obtain ⟨x0, i2⟩ : ∃ x, x = ra[k].e.ix := ⟨_, rfl⟩
 obtain ⟨x1, i3⟩ : ∃ x, x = ra[k].e.tm := ⟨_, rfl⟩
 obtain ⟨x2, i4⟩ : ∃ x, x = ra[k].e.kd := ⟨_, rfl⟩
 obtain ⟨x3, i6⟩ : ∃ x, x = ra[k].e.b := ⟨_, rfl⟩
 obtain ⟨y0, j6⟩ : ∃ x, x = rb[k].e.ix := ⟨_, rfl⟩
 obtain ⟨y1, j8⟩ : ∃ x, x = rb[k].e.tm := ⟨_, rfl⟩
 obtain ⟨y2, j9⟩ : ∃ x, x = rb[k].e.kd := ⟨_, rfl⟩
 obtain ⟨y3, l4⟩ : ∃ x, x = rb[k].e.b := ⟨_, rfl⟩
 rw [<- i2, <- i3, <- i4, <- i6, <- j6, <- j8, <- j9, <- l4] at a7;rw [<- i2] at a0;rw [<- i3] at a1;rw [<- i4] at a2;rw [<- i6] at a3 n9 f8;rw [<- j6] at b0;rw [<- j8] at b1;rw [<- j9] at b2;rw [<- l4] at b3 o7 f9;have q1 := fun n => bN0 ca (f8.drewN n)
 have q2 := fun n => bN0 cb (f9.drewN n)
 have o8 : (k : Int) < (ra.length : Int) := by omega
 have m0 : (k : Int) < (rb.length : Int) := by omega
 have d8 := qZ a7;clear g6 g7 a9 b8 m5 m6 m3 m4 f8 f9 kF kE i2 i3 i4 i6 j6 j8 j9 l4 a7 g8 m2;by_cases e0 : x0 = y0
 rotate_left
 ·have n0 : (x0 != y0) = true := bne_iff_ne.2 e0
  have e9 := qZ (show R = false by rw [d8.out]; simp [e0]);clear d8;go_wp2_with fail
  go_quiet (fail);go_wp2_with fail
  go_ret
  exact ⟨by rw [e9.out]; rfl, aA4 a8.out _⟩
 subst e0;by_cases e : x1 = y1
 rotate_left
 ·have n1 : (x1 != y1) = true := bne_iff_ne.2 e
  have e9 := qZ (show R = false by rw [d8.out]; simp [e]);clear d8;go_wp2_with fail
  go_quiet (fail);go_wp2_with fail
  go_ret
  exact ⟨by rw [e9.out]; rfl, aA4 a8.out _⟩
 subst e;by_cases e : x2 = y2
 ·subst e
  by_cases e : x3 = y3
  ·have n7 := qZ (show R = aP6 (L.drop (k + 1)) (M.drop (k + 1)) by rw [d8.out]; simp [e])
   subst e;clear d8;go_wp2_with fail
   go_quiet (fail);go_wp2_with fail
   go_roundw
   case rel => exact ⟨k + 1, by omega, by go_num, n7, qZ (aA4 a8.out _)⟩
   case measure => simp [intOf]; omega
  have hs : ((str x3).toList == (str y3).toList) = false := beq_eq_false_iff_ne.2 (fun h => e (by simpa [str, ByteArray.toList_eq] using h));have e9 := qZ (show R = false by rw [d8.out]; simp [e]);clear d8 e;go_wp2_with fail
  go_quiet (fail);go_wp2_with fail
  go_ret
  exact ⟨by rw [e9.out]; rfl, aA4 a8.out _⟩
 have n2 : (x2 != y2) = true := bne_iff_ne.2 e;have e9 := qZ (show R = false by rw [d8.out]; simp [e]);clear d8;go_wp2_with fail
 go_quiet (fail);go_wp2_with fail
 go_ret
 exact ⟨by rw [e9.out]; rfl, aA4 a8.out _⟩
end
end Go.Proofs.YtgeofijddhflaaaGreatDoor
