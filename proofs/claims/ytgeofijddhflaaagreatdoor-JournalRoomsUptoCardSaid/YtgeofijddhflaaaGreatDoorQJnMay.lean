/- journal.may: may entries be saved. Condition: the journal's and the entries' memory are known. -/
import Derived.Test.YtgeofijddhflaaaGreatDoorQJnMeta
import Derived.Test.YtgeofijddhflaaaGreatDoorQJnSeg
import Derived.Test.YtgeofijddhflaaaGreatDoorQCalcParse
import Derived.Test.YtgeofijddhflaaaGreatDoorQKeepRPieces
import Derived.Laws.IdiomStrings
import Derived.BigQuiet
set_option linter.unusedVariables false
set_option linter.unusedSimpArgs false
namespace Go.Proofs.YtgeofijddhflaaaGreatDoor
open Go.RowKit Oct
theorem jrow_shape {w : World} {base : Nat} {e : TypeId} {size n : Nat} {v : Value} {xs : List Value} (h : w.ownsRow base e size v n xs) :
  ∃ A c, v = .slice A n c ∧ n ≤ c ∧ c ≤ 9223372036854775807 ∧ (0 < n → ∃ g cur, A = some ⟨g, 0, none⟩ ∧ base ≤ g ∧ g < w.heap.size ∧ w.heap[g]? = some (.cells cur e (0, 0)) ∧ cur.size = c * size ∧ ∀ j u, xs[j]? = some u → w.cell? ⟨g, j, none⟩ = some u) := by
 rcases h.2 with ⟨rfl, h0⟩ | ⟨g, cap, cur, rfl, hb, hg, hn, hm, hs, ht⟩
 ·exact ⟨none, 0, by rw [h0], by omega, by omega, fun hn => by omega⟩
 ·refine ⟨_, cap, rfl, hn, by unfold maxLen at hm; omega, fun hn => ⟨g, cur, rfl, hb, (Array.getElem?_eq_some_iff.1 hg).1, hg, hs, fun j u hj => ?_⟩⟩
  rw [cell_of_row w g j cur e (0, 0) hg]
  rw [← ht] at hj
  rw [List.getElem?_take] at hj
  split at hj
  ·simpa using hj
  ·cases hj
theorem jrow_type_ne {w : World} {b1 b2 : Nat} {e1 e2 : TypeId} {s1 s2 n1 n2 : Nat} {u v : Value} {x1 x2 : List Value} (h1 : w.ownsRow b1 e1 s1 u n1 x1) (h2 : w.ownsRow b2 e2 s2 v n2 x2) (he : e1 ≠ e2) : u.ownBlock = none ∨ u.ownBlock ≠ v.ownBlock := by
 cases hu : u.ownBlock with
 | none => exact .inl rfl
 | some q =>
  refine .inr fun e => ?_
  obtain ⟨cs, hc⟩ := ownsRow_held h1 hu
  obtain ⟨cs', hc'⟩ := ownsRow_held h2 e.symm
  rw [hc] at hc'
  injection hc' with hc'
  injection hc' with _ h _
  exact he h
def DatG (w : World) (B : Nat) (v : Value) (l : List UInt8) : Prop := ∃ (g c : Nat) (cs : Array Value) (fz : Nat × Nat), v = .slice (some ⟨g, 0, none⟩) l.length c ∧ l.length ≤ c ∧ c ≤ 9223372036854775807 ∧ B ≤ g ∧ w.heap[g]? = some (.cells cs 5 fz) ∧ ∀ (j : Nat) (u : Value), (cells l)[j]? = some u → cs[j]? = some u
section
variable {w w' : World} {B : Nat} {v : Value} {l : List UInt8}
theorem DatG.lt (h : DatG w B v l) : ∀ q, v.ownBlock = some q → B ≤ q ∧ q < w.heap.size := by
 obtain ⟨g, c, cs, fz, rfl, h1, h2, h3, h4, h5⟩ := h
 intro q hq
 injection hq with hq
 subst hq
 exact ⟨h3, (Array.getElem?_eq_some_iff.1 h4).1⟩
theorem DatG.held (h : DatG w B v l) : ∃ g cs fz, v.ownBlock = some g ∧ w.heap[g]? = some (.cells cs 5 fz) := by
 obtain ⟨g, c, cs, fz, rfl, h1, h2, h3, h4, h5⟩ := h
 exact ⟨g, cs, fz, rfl, h4⟩
theorem DatG.keep (h : DatG w B v l) (hk : ∀ q, v.ownBlock = some q → w'.heap[q]? = w.heap[q]?) : DatG w' B v l := by
 obtain ⟨g, c, cs, fz, rfl, h1, h2, h3, h4, h5⟩ := h
 exact ⟨g, c, cs, fz, rfl, h1, h2, h3, (hk g rfl).trans h4, h5⟩
theorem DatG.mono {B' : Nat} (h : DatG w B v l) (hB : B' ≤ B) : DatG w B' v l := by
 obtain ⟨g, c, cs, fz, rfl, h1, h2, h3, h4, h5⟩ := h
 exact ⟨g, c, cs, fz, rfl, h1, h2, by omega, h4, h5⟩
theorem DatG.datF {F : Nat → Prop} (h : DatG w B v l) (hF : ∀ k, B ≤ k → k < w.heap.size → F k) : DatF w F v l := by
 obtain ⟨g, c, cs, fz, rfl, h1, h2, h3, h4, h5⟩ := h
 have hlt := (Array.getElem?_eq_some_iff.1 h4).1
 exact ⟨_, c, rfl, h1, h2, fun _ => ⟨g, 0, rfl, hF g h3 hlt, hlt, fun j u hu => by
  rw [cell_of_row w g (0 + j) cs _ fz h4, Nat.zero_add]
  exact h5 j u hu⟩⟩
end
theorem heap_new (w : World) (o : Obj) : (w.drew.alloc o).heap[w.heap.size]? = some o := by
 show (w.heap.push o)[w.heap.size]? = some o
 simp
theorem run_textB (w : World) (l : List UInt8) (hl : l.length ≤ 9223372036854775807) : ∃ v w', (convert 9 34 (.string (str l))).run Tryz.prog w = .ok v w' ∧ DatG w' w.heap.size v l ∧ Below w.heap.size w w' := by
 have hs : (str l).size = l.length := str_size l
 have hg1 := grownCap_ge w (str l).size 0 5
 have hg2 := grownCap_le_maxLen w (str l).size 0 5 (by rw [hs]; unfold maxLen; omega)
 refine ⟨_, _, run_bytes_of_string w 9 34 5 (str l) Tryz.underlying9 Tryz.underlying34 Tryz.underlying5, ?_, ?_⟩
 ·rw [hs]
  rw [hs] at hg1 hg2
  refine ⟨w.heap.size, _, _, _, rfl, hg1, by unfold maxLen at hg2; omega, Nat.le_refl _, heap_new _ _, fun j u hu => ?_⟩
  have hj := (List.getElem?_eq_some_iff.1 hu).1
  rw [cells_length] at hj
  rw [bytesRow_at _ _ _ (by simpa [str] using hj)]
  rw [← hu]
  simp [cells, str, hj]
 ·exact (below_drewN (Below.refl _ w) 1).alloc (Nat.le_refl _) _
structure SgAt (w : World) (G : Nat) (s : SegP) (rs : List EntR) (vl ve tv : Value) : Prop where
 blk : Blk w G 106 #[.int .i64 s.k, .int .i64 s.first, .int .i64 s.term, vl, ve, tv]
 ents : w.ownsRow (G + 1) 65 4 vl rs.length (erCells rs)
 map : rs.map EntR.e = s.l
 dat : ∀ q ∈ rs, DatG w (G + 1) q.v q.e.b
 ends : Own w (G + 1) 3 ve (s.ends.map (Value.int .i64))
section
variable {w w' : World} {G : Nat} {s : SegP} {rs : List EntR} {vl ve tv : Value}
theorem SgAt.new (h : SgAt w G s rs vl ve tv) (hb : Below w.heap.size w w') : SgAt w' G s rs vl ve tv :=
 ⟨h.blk.below hb h.blk.lt, World.ownsRow.kept h.ents (grown_of_below hb none) (by cases vl.ownBlock <;> simp), h.map, fun q hq => (h.dat q hq).keep fun k hk => hb.block k ((h.dat q hq).lt k hk).2, Own.below h.ends hb (Nat.le_refl _)⟩
theorem SgAt.headed (h : SgAt w G s rs vl ve tv) (hg : w.grownBy w' (some G)) {f t : Int} (hB : Blk w' G 106 #[.int .i64 s.k, .int .i64 f, .int .i64 t, vl, ve, tv]) : SgAt w' G { s with first := f, term := t } rs vl ve tv :=
 ⟨hB, World.ownsRow.kept h.ents hg (by
  cases hv : vl.ownBlock with
  | none => exact .inl rfl
  | some q => exact .inr fun e => by injection e with e; have := (World.ownsRow.lt h.ents q hv).1; omega), h.map, fun q hq => (h.dat q hq).keep fun k hk => hg.block k ((h.dat q hq).lt k hk).2 (fun e => by injection e with e; have := ((h.dat q hq).lt k hk).1; omega), Own.far h.ends hg (by omega)⟩
theorem SgAt.push {w2 : World} {vl' : Value} {q : EntR} (h : SgAt w G s rs vl ve tv) (hq : DatG w (G + 1) q.v q.e.b) (hown : w2.ownsRow (G + 1) 65 4 vl' (rs.length + 1) (erCells rs ++ erOne q)) (hg : w.grownBy w2 vl.ownBlock) :
  SgAt (w2.setCell ⟨G, 3, none⟩ vl') G { s with l := s.l ++ [q.e] } (rs ++ [q]) vl' ve tv := by
 have hlt : ∀ k, vl.ownBlock = some k → G < k := fun k hk => by have := (World.ownsRow.lt h.ents k hk).1; omega
 have hdk : ∀ (v : Value) (l : List UInt8), DatG w (G + 1) v l → DatG (w2.setCell ⟨G, 3, none⟩ vl') (G + 1) v l := fun v l hd => hd.keep fun k hk => by
  have h2 := hd.lt k hk
  rw [Below.heap_setCell w2 ⟨G, 3, none⟩ vl' k (by show k ≠ G; omega)]
  refine hg.block k h2.2 fun e => ?_
  obtain ⟨g, cs, fz, e1, hc⟩ := hd.held
  rw [hk] at e1
  injection e1 with e1
  subst e1
  obtain ⟨cs', hc'⟩ := ownsRow_held h.ents e.symm
  rw [hc] at hc'
  injection hc' with hc'
  injection hc' with _ h _
  exact absurd h (by decide)
 have hsc := grown_setCell w2 G 3 vl'
 have k1 : Blk w2 G 106 _ := h.blk.grown hg (fun e => by have := hlt G e.symm; omega)
 refine ⟨Blk.set_ k1 3 _, ?_, by rw [List.map_append, h.map]; rfl, fun x hx => ?_, Own.far (Own.kept h.ends hg (jrow_type_ne h.ends h.ents (by decide))) hsc (by omega)⟩
 ·rw [erCells_append, List.length_append]
  have : w2.ownsRow (G + 1) 65 4 vl' (rs.length + [q].length) (erCells rs ++ erCells [q]) := by simpa [erCells] using hown
  exact World.ownsRow.kept this hsc (by
   cases hv : vl'.ownBlock with
   | none => exact .inl rfl
   | some k => exact .inr fun e => by injection e with e; have := (World.ownsRow.lt this k hv).1; omega)
 ·rcases List.mem_append.1 hx with hx | hx
  ·exact hdk _ _ (h.dat x hx)
  ·obtain rfl := List.mem_singleton.1 hx
   exact hdk _ _ hq
theorem SgAt.last (h : SgAt w G s rs vl ve tv) (hf : 0 ≤ s.first ∧ s.first ≤ 9223372036854775807) (hn : rs.length ≤ 4611686018427387904) :
  Calls Tryz.prog 62 #[.pointer (some ⟨G, 0, none⟩)] w fun e w' => e = .returned (.tuple #[.int .i64 s.last.1, .int .i64 s.last.2]) ∧ Below w.heap.size w w' := by
 obtain ⟨A, c, rfl, h1, h2, h3⟩ := jrow_shape h.ents
 have c1 : w.cell? ⟨G, 0 + 1, none⟩ = some (.int .i64 s.first) := h.blk.cell 1
 have c2 : w.cell? ⟨G, 0 + 2, none⟩ = some (.int .i64 s.term) := h.blk.cell 2
 have c3 : w.cell? ⟨G, 0 + 3, none⟩ = some (.slice A rs.length c) := h.blk.cell 3
 rcases List.eq_nil_or_concat rs with rfl | ⟨r, q, rfl⟩
 ·have hl : s.last = (s.first - 1, s.term) := by
   unfold SegP.last
   rw [← h.map]
   rfl
  rw [hl]
  exact jlast_none G 0 s.first s.term A c hf w c1 c2 c3
 ·rw [List.concat_eq_append] at h
  simp only [List.concat_eq_append, List.length_append] at hn h3 c3
  have hl : s.last = (q.e.ix, q.e.tm) := by
   unfold SegP.last
   rw [← h.map]
   simp
  rw [hl]
  obtain ⟨g, cur, rfl, hg1, hg2, _, _, hc⟩ := h3 (by simp)
  obtain ⟨g', cd, cs, fz, hv, _⟩ := h.dat q (by simp)
  have hget : ∀ j, j < 4 → (erCells (r ++ [q]))[r.length * 4 + j]? = (erOne q)[j]? := fun j hj => by
   rw [erCells_at _ (k := r.length) (by simp) hj]
   simp
  have e0 := hc (r.length * 4 + 0) _ (hget 0 (by omega))
  have e1 := hc (r.length * 4 + 1) _ (hget 1 (by omega))
  have e2 := hc (r.length * 4 + 2) _ (hget 2 (by omega))
  have e3 := hc (r.length * 4 + 3) _ (hget 3 (by omega))
  exact jlast_some G 0 r.length g 0 c q.e.ix q.e.tm q.e.kd (some ⟨g', 0, none⟩) q.e.b.length cd (by simp at hn; omega) w c3 (by simpa using e0) (by simpa using e1) (by simpa using e2) (by simpa [hv] using e3) h.blk.lt hg2
end
end Go.Proofs.YtgeofijddhflaaaGreatDoor
set_option linter.unusedVariables false
set_option linter.unusedSimpArgs false
namespace Go.Proofs.YtgeofijddhflaaaGreatDoor
open Go.RowKit Oct
theorem info_entry : (Tryz.prog.info? 65).map (fun i => (i.zero, i.size, i.bytes)) = some (some (.agg #[.int .i64 0, .int .i64 0, .int .i64 0, .slice none 0 0]), 4, 48) := by kernel_rfl
theorem takeEn_bad0 {p : List UInt8} {a : Int} (h : (takeN 2 p).2.isSome = false) : takeEn p a = none := by
 unfold takeEn
 rcases hN : takeN 2 p with ⟨v, _ | r⟩
 ·split
  ·rename_i e; cases e
  ·rfl
 ·rw [hN] at h
  cases h
theorem takeEn_go {p : List UInt8} {a t k : Int} {r : List UInt8} (h1 : (takeN 2 p).1 = [t, k]) (h2 : (takeN 2 p).2 = some r) : takeEn p a = if (takeT r).2.2 ≠ 0 ∨ (takeT r).2.1 ≠ r.length ∨ maxInt - 1 ≤ a then none else some ⟨a + 1, t, k, (takeT r).1⟩ := by
 unfold takeEn
 rcases hN : takeN 2 p with ⟨v, o⟩
 rw [hN] at h1 h2
 simp only at h1 h2
 subst h1 h2
 rfl
theorem takeT_len (l : List UInt8) : (takeT l).1.length ≤ l.length := by
 unfold takeT
 split
 ·split
  ·simp
  ·rw [List.length_take, List.length_drop]
   omega
 ·simp
theorem takeN_len {n : Nat} {b r : List UInt8} (h : (takeN n b).2 = some r) : r.length ≤ b.length := by
 induction n generalizing b with
 | zero => injection h with h; rw [h]; exact Nat.le_refl _
 | succ n ih =>
  unfold takeN at h
  split at h
  ·cases h
  ·have := ih h
   rw [List.length_drop] at this
   omega
set_option maxHeartbeats 4000000 in
set_option maxRecDepth 100000 in
theorem jtakeEntry_any (A : Option Addr) (b : List UInt8) (c G : Nat) (w : World) {s : SegP} {rs : List EntR} {vl ve tv : Value} (hS : SgAt w G s rs vl ve tv) (hr : Rd w G A (cells b)) (hbc : b.length ≤ c) (hb : b.length ≤ 140737488351232) (hc : c ≤ 9223372036854775807)
  (hf : 0 ≤ s.first ∧ s.first ≤ 9223372036854775807) (hn : rs.length ≤ 1000000000) (hl : -9223372036854775808 ≤ s.last.1) :
  Calls Tryz.prog 146 #[.pointer (some ⟨G, 0, none⟩), .slice A b.length c] w fun e w' => e = .returned (.bool (takeEn b s.last.1).isSome) ∧ Below G w w' ∧
   (takeEn b s.last.1 = none → SgAt w' G s rs vl ve tv) ∧ ∀ q, takeEn b s.last.1 = some q → ∃ v vl', SgAt w' G { s with l := s.l ++ [q] } (rs ++ [⟨v, q⟩]) vl' ve tv := by
 have HS := Lib.hid hS
 have HL := Lib.hid (hS.last hf (by omega))
 have HR := Lib.hid hr
 have hGl : G < w.heap.size := hS.blk.lt
 obtain ⟨A3, c3, hvl, _⟩ := jrow_shape hS.ents
 subst hvl
 obtain ⟨ix, hix⟩ : ∃ ix, ix = s.last.1 := ⟨_, rfl⟩
 rw [← hix] at HL hl ⊢
 generalize s.last.2 = lt at HL
 clear hS hr hix
 go_enter Tryz.func146, Tryz.ntmps146
 go_wp2_with fail
 refine HL.out.mono ?_
 rintro e w1 ⟨rfl, hb1⟩
 have hs1 := hb1.size
 have HB1 := Lib.hid hb1
 clear hb1 HL
 have hK0 : Blk (w1.alloc (.cells #[.int .i64 0, .int .i64 0, .int .i64 0, .slice none 0 0] 65)) w1.heap.size 65 #[.int .i64 0, .int .i64 0, .int .i64 0, .slice none 0 0] := Blk.new w1 _ _
 have hbE : Below w.heap.size w (w1.alloc (.cells #[.int .i64 0, .int .i64 0, .int .i64 0, .slice none 0 0] 65)) := HB1.out.trans ((Below.refl _ w1).alloc (by omega) _)
 go_upto_region 3 with (fail)
 obtain ⟨wE, hwE⟩ : ∃ wE, wE = w1.alloc (.cells #[.int .i64 0, .int .i64 0, .int .i64 0, .slice none 0 0] 65) := ⟨_, rfl⟩
 obtain ⟨E0, hE0⟩ : ∃ E0, E0 = w1.heap.size := ⟨_, rfl⟩
 rw [← hwE] at hK0 hbE ⊢
 rw [← hE0] at hK0 hs1 ⊢
 have hEl : E0 < wE.heap.size := hK0.lt
 have HKE := Lib.hid hK0
 have HBE := Lib.hid hbE
 have hsE := hbE.size
 clear hwE hE0 hK0 hbE HB1
 have hbP : Below wE.heap.size wE (wE.alloc (.cells [Value.pointer (some ⟨E0, 1, none⟩), Value.pointer (some ⟨E0, 2, none⟩)].toArray 155)) := (Below.refl _ wE).alloc (Nat.le_refl _) _
 have HBP := Lib.hid hbP
 have hsP := hbP.size
 have HTN : Hid (Calls Tryz.prog 104 #[.slice A b.length c, .slice (some ⟨wE.heap.size, 0, none⟩) 2 2] (wE.alloc (.cells [Value.pointer (some ⟨E0, 1, none⟩), Value.pointer (some ⟨E0, 2, none⟩)].toArray 155)) _) := Lib.hid (jtakeNums_any A b c (some ⟨wE.heap.size, 0, none⟩) 2 2 E0 1 65 #[.int .i64 0, .int .i64 0, .int .i64 0, .slice none 0 0] (wE.alloc (.cells [Value.pointer (some ⟨E0, 1, none⟩), Value.pointer (some ⟨E0, 2, none⟩)].toArray 155))
  ((((HR.out.more (by omega)).below HBE.out).more (by omega : w.heap.size ≤ wE.heap.size)).below hbP |>.more hsP) (fun h0 ad e => by obtain ⟨ad', e', hlt, _⟩ := HR.out (by rw [cells_length]; exact h0); rw [e] at e'; injection e' with e'; subst e'; omega) hbc hb hc
  ((rd_lit wE 155 [Value.pointer (some ⟨E0, 1, none⟩), Value.pointer (some ⟨E0, 2, none⟩)]).more (by simp)) (fun ad e => by injection e with e; subst e; show wE.heap.size ≠ E0; omega) (HKE.out.below hbP hEl) (by omega) (fun i hi => by
   have : i = 0 ∨ i = 1 := by omega
   rcases this with rfl | rfl
   ·exact ⟨_, rfl, rfl⟩
   ·exact ⟨_, rfl, rfl⟩))
 clear hbP
 obtain ⟨okv, hok⟩ : ∃ okv, okv = (takeN 2 b).2.isSome := ⟨_, rfl⟩
 rw [← hok] at HTN
 have HOK := Lib.hid hok
 clear hok
 go_wp2_with fail
 refine HTN.out.mono ?_
 rintro e w3 ⟨v, rfl, hgr, ⟨vals, hvl, hB3, hvs⟩, Ar, rr, cr, rfl, hrc, hcr, hrd, hgd⟩
 have hB03 : Below w.heap.size w w3 := (HBE.out.trans (HBP.out.mono hsE)).grown hgr (by omega) (fun j hj => by injection hj with hj; omega)
 have hs3 := hB03.size
 have hE3 : E0 < w3.heap.size := hB3.lt
 have hrrl : rr.length ≤ 140737488351232 := by
  cases hq : (takeN 2 b).2 with
  | none => rw [hq] at hgd; rw [← hgd]; simp
  | some r => rw [hq] at hgd; have := takeN_len hq; rw [← hgd]; show r.length ≤ _; omega
 have HTT := Lib.hid (takeText_any Ar rr cr w3 hrd hrc (by omega))
 have HB3 := Lib.hid (And.intro hB3 hB03)
 have HVS := Lib.hid hvs
 have HGD := Lib.hid hgd
 clear hB3 hB03 hvs hgd hgr HTN HBP HKE HBE hrd
 go_wp2_with fail
 refine HTT.out.mono ?_
 rintro e w4 ⟨rfl, hb4⟩
 have HB4 := Lib.hid hb4
 clear HTT hb4
 have hfin : takeEn b ix = none → ∀ w5 : World, Below w4.heap.size w4 w5 → (.returned (.bool false) : Ending) = .returned (.bool (takeEn b ix).isSome) ∧ Below G w w5 ∧
   (takeEn b ix = none → SgAt w5 G s rs (.slice A3 rs.length c3) ve tv) ∧ ∀ q, takeEn b ix = some q → ∃ v vl', SgAt w5 G { s with l := s.l ++ [q] } (rs ++ [⟨v, q⟩]) vl' ve tv := fun hN w5 hb5 => by
  have hb : Below w.heap.size w w5 := (HB3.out.2.trans (HB4.out.mono hs3)).trans (hb5.mono (by have := HB4.out.size; omega))
  refine ⟨by rw [hN]; rfl, hb.mono (by omega), fun _ => HS.out.new hb, fun q h => by rw [hN] at h; cases h⟩
 have HFI := Lib.hid hfin
 clear hfin
 obtain ⟨tx, htx⟩ : ∃ tx, tx = (takeT rr).1 := ⟨_, rfl⟩
 obtain ⟨us, hus⟩ : ∃ us, us = (takeT rr).2.1 := ⟨_, rfl⟩
 obtain ⟨er, her⟩ : ∃ er, er = (takeT rr).2.2 := ⟨_, rfl⟩
 rw [← htx, ← hus, ← her]
 have HTQ := Lib.hid (And.intro htx (And.intro hus her))
 clear htx hus her
 cases okv with
 | false =>
  have hN := takeEn_bad0 (a := ix) HOK.out.symm
  have HFN := Lib.hid (HFI.out hN)
  clear hN HFI
  go_wp2_with fail
  go_ret
  exact HFN.out _ (Below.refl _ _)
 | true =>
  obtain ⟨r, hr2⟩ := Option.isSome_iff_exists.1 HOK.out.symm
  obtain rfl : r = rr := by have := HGD.out; rw [hr2] at this; exact this
  obtain ⟨hv1, hv2⟩ := HVS.out r hr2
  obtain ⟨t, k, rfl⟩ : ∃ t k, vals = [t, k] := by
   match vals, hv2 with
   | [t, k], _ => exact ⟨t, k, rfl⟩
  have hGO := takeEn_go (a := ix) hv1.symm hr2
  rw [← HTQ.out.1, ← HTQ.out.2.1, ← HTQ.out.2.2] at hGO
  have HGO := Lib.hid hGO
  clear hv1 hv2 hr2 hGO HOK HVS HGD
  by_cases e1 : er = 0
  ·subst e1
   by_cases e2 : us = r.length
   ·subst e2
    by_cases e3 : maxInt - 1 ≤ ix
    ·have HFN := Lib.hid (HFI.out (by rw [HGO.out, if_pos (.inr (.inr e3))]))
     unfold maxInt at e3
     clear HFI
     go_wp2_with fail
     go_ret
     exact HFN.out _ (Below.refl _ _)
    ·have hN : takeEn b ix = some ⟨ix + 1, t, k, tx⟩ := by
      rw [HGO.out, if_neg (by rintro (h | h | h); exact h rfl; exact h rfl; exact e3 h)]
     unfold maxInt at e3
     have hw : IntKind.i64.wrap (ix + 1) = ix + 1 := IntWalk.i64_in _ (by omega)
     have hd3 : decide (ix ≥ 9223372036854775806) = false := by simp; omega
     have htl : tx.length ≤ 140737488351232 := by rw [HTQ.out.1]; have := takeT_len r; omega
     obtain ⟨vd, w5, hcv, hd, hb5⟩ := run_textB w4 tx (by omega)
     have HD := Lib.hid hd
     obtain ⟨gd, cd, csd, fz, rfl, _⟩ := hd
     have hK5 : Blk w5 E0 65 #[.int .i64 0, .int .i64 t, .int .i64 k, .slice none 0 0] := (HB3.out.1.below HB4.out hE3).below hb5 (by have := HB4.out.size; omega)
     have f0 : w5.cell? ⟨E0, 0, none⟩ = some (.int .i64 0) := hK5.cell 0
     have f3 : w5.cell? ⟨E0, 3, none⟩ = some (.slice none 0 0) := hK5.cell 3
     have z0 : w5.frozen? ⟨E0, 0, none⟩ = false := hK5.frozen _
     have z3 : w5.frozen? ⟨E0, 3, none⟩ = false := hK5.frozen _
     have HK5 := Lib.hid hK5
     have HB5 := Lib.hid hb5
     have HNN := Lib.hid hN
     have hs4 := HB4.out.size
     have hs5 := hb5.size
     clear hK5 hb5 hN HFI HGO e3
     go_upto_region 8 with (fail)
     obtain ⟨w6, hw6⟩ : ∃ w6, w6 = ((w5.setCell ⟨E0, 0, none⟩ (.int .i64 (ix + 1))).setCell ⟨E0, 3, none⟩ (.slice (some ⟨gd, 0, none⟩) tx.length cd)) := ⟨_, rfl⟩
     have hK6 : Blk w6 E0 65 #[.int .i64 (ix + 1), .int .i64 t, .int .i64 k, .slice (some ⟨gd, 0, none⟩) tx.length cd] := by rw [hw6]; exact (HK5.out.set_ 0 _).set_ 3 _
     have hg56 : w5.grownBy w6 (some E0) := by rw [hw6]; exact grown_then (grown_setCell w5 E0 0 _) (grown_setCell _ E0 3 _) (.inl rfl)
     have hb6 : Below w.heap.size w w6 := ((HB3.out.2.trans (HB4.out.mono hs3)).trans (HB5.out.mono (by omega))).grown hg56 (by omega) (fun j hj => by injection hj with hj; omega)
     have hd6 : DatG w6 (G + 1) (.slice (some ⟨gd, 0, none⟩) tx.length cd) tx := (HD.out.keep fun q hq => hg56.block q (HD.out.lt q hq).2 (fun e => by injection e with e; have := (HD.out.lt q hq).1; omega)).mono (by omega)
     have hS6 : SgAt w6 G s rs (.slice A3 rs.length c3) ve tv := HS.out.new hb6
     rw [← hw6]
     have hs6 := hb6.size
     have hE6 : E0 < w6.heap.size := hK6.lt
     have hG6 : G < w6.heap.size := hS6.blk.lt
     have hs56 := hg56.size
     have hSK : ∀ W : World, W.heap[G]? = w6.heap[G]? → W.heap[E0]? = w6.heap[E0]? → W.cell? ⟨G, 3, none⟩ = some (.slice A3 rs.length c3) ∧ W.cell? ⟨E0, 0, none⟩ = some (.int .i64 (ix + 1)) ∧ W.cell? ⟨E0, 1, none⟩ = some (.int .i64 t) ∧ W.cell? ⟨E0, 2, none⟩ = some (.int .i64 k) ∧ W.cell? ⟨E0, 3, none⟩ = some (.slice (some ⟨gd, 0, none⟩) tx.length cd) ∧ True := fun W h1 h2 =>
      ⟨(World.cell?_of_block (w := w6) h1).trans (hS6.blk.cell 3), (World.cell?_of_block (w := w6) h2).trans (hK6.cell 0), (World.cell?_of_block (w := w6) h2).trans (hK6.cell 1), (World.cell?_of_block (w := w6) h2).trans (hK6.cell 2), (World.cell?_of_block (w := w6) h2).trans (hK6.cell 3), trivial⟩
     have HSK := Lib.hid hSK
     have HS6 := Lib.hid hS6
     have HD6 := Lib.hid hd6
     have HB6 := Lib.hid hb6
     clear hw6 hK6 hg56 hb6 hd6 hS6 hSK f0 f3 z0 z3 hcv HK5 HD
     refine wp_region_heldT 10 rfl (S := fun W => W.cell? ⟨G, 3, none⟩ = some (.slice A3 rs.length c3) ∧ W.cell? ⟨E0, 0, none⟩ = some (.int .i64 (ix + 1)) ∧ W.cell? ⟨E0, 1, none⟩ = some (.int .i64 t) ∧ W.cell? ⟨E0, 2, none⟩ = some (.int .i64 k) ∧ W.cell? ⟨E0, 3, none⟩ = some (.slice (some ⟨gd, 0, none⟩) tx.length cd) ∧ True) (HSK.out _ rfl rfl) (fun hHeld => ?_)
     refine heldT_take 0 (v := ?_) (by simp) (by kernel_rfl) (by kernel_rfl) (by kernel_rfl) (by kernel_rfl) (fun _ _ _ h => h) (Or.inl ⟨by rfl, ?_⟩) hHeld ?_
     case refine_2 => (intro w hSw; (try dsimp only at hSw); obtain ⟨s0, s1, s2, s3, s4, s5⟩ := hSw; simp only [List.getElem_cons_zero]; go_simp <;> with_reducible rfl)
     simp only [List.getElem_cons_zero, Act.put, List.setIfInBounds_toArray, List.set_cons_zero, List.set_cons_succ]
     refine heldT_take 1 (v := ?_) (by simp) (by kernel_rfl) (by kernel_rfl) (by kernel_rfl) (by kernel_rfl) (fun _ _ _ h => h) (Or.inl ⟨by rfl, ?_⟩) hHeld ?_
     case refine_2 => (intro w hSw; (try dsimp only at hSw); obtain ⟨s0, s1, s2, s3, s4, s5⟩ := hSw; simp only [List.getElem_cons_zero, List.getElem_cons_succ]; go_simp <;> with_reducible rfl)
     simp only [List.getElem_cons_zero, List.getElem_cons_succ, Act.put, List.setIfInBounds_toArray, List.set_cons_zero, List.set_cons_succ]
     refine heldT_take 2 (v := ?_) (by simp) (by kernel_rfl) (by kernel_rfl) (by kernel_rfl) (by kernel_rfl) (fun _ _ _ h => h) (Or.inl ⟨by rfl, ?_⟩) hHeld ?_
     case refine_2 => (intro w hSw; (try dsimp only at hSw); obtain ⟨s0, s1, s2, s3, s4, s5⟩ := hSw; simp only [List.getElem_cons_zero, List.getElem_cons_succ]; go_simp <;> with_reducible rfl)
     simp only [List.getElem_cons_zero, List.getElem_cons_succ, Act.put, List.setIfInBounds_toArray, List.set_cons_zero, List.set_cons_succ]
     refine heldT_take 3 (v := ?_) (by simp) (by kernel_rfl) (by kernel_rfl) (by kernel_rfl) (by kernel_rfl) (fun _ _ _ h => h) (Or.inl ⟨by rfl, ?_⟩) hHeld ?_
     case refine_2 => (intro w hSw; (try dsimp only at hSw); obtain ⟨s0, s1, s2, s3, s4, s5⟩ := hSw; simp only [List.getElem_cons_zero, List.getElem_cons_succ]; go_simp <;> with_reducible rfl)
     simp only [List.getElem_cons_zero, List.getElem_cons_succ, Act.put, List.setIfInBounds_toArray, List.set_cons_zero, List.set_cons_succ]
     refine heldT_take 4 (v := ?_) (by simp) (by kernel_rfl) (by kernel_rfl) (by kernel_rfl) (by kernel_rfl) (fun _ _ _ h => h) (Or.inl ⟨by rfl, ?_⟩) hHeld ?_
     case refine_2 => (intro w hSw; (try dsimp only at hSw); obtain ⟨s0, s1, s2, s3, s4, s5⟩ := hSw; simp only [List.getElem_cons_zero, List.getElem_cons_succ]; go_simp <;> with_reducible rfl)
     simp only [List.getElem_cons_zero, List.getElem_cons_succ, Act.put, List.setIfInBounds_toArray, List.set_cons_zero, List.set_cons_succ]
     refine heldT_take 5 (v := ?_) (by simp) (by kernel_rfl) (by kernel_rfl) (by kernel_rfl) (by kernel_rfl) (fun _ _ _ h => h) (Or.inl ⟨by rfl, ?_⟩) hHeld ?_
     case refine_2 => (intro w hSw; (try dsimp only at hSw); obtain ⟨s0, s1, s2, s3, s4, s5⟩ := hSw; simp only [List.getElem_cons_zero, List.getElem_cons_succ]; go_simp <;> with_reducible rfl)
     simp only [List.getElem_cons_zero, List.getElem_cons_succ, Act.put, List.setIfInBounds_toArray, List.set_cons_zero, List.set_cons_succ]
     refine heldT_sole 6 (by simp) (by kernel_rfl) (fun K hK => ?_)
     simp only [List.getElem_cons_zero, List.getElem_cons_succ]
     go_simp
     obtain ⟨w7, hw7⟩ : ∃ w7, w7 = (w6.alloc (.cells [Value.int .i64 (ix + 1), Value.int .i64 t, Value.int .i64 k, Value.slice (some ⟨gd, 0, none⟩) tx.length cd].toArray 65)).drew := ⟨_, rfl⟩
     have hb7 : Below w6.heap.size w6 w7 := by rw [hw7]; exact below_drewN ((Below.refl _ w6).alloc (Nat.le_refl _) _) 1
     have hc7 : ∀ j u, [Value.int .i64 (ix + 1), Value.int .i64 t, Value.int .i64 k, Value.slice (some ⟨gd, 0, none⟩) tx.length cd][j]? = some u → w7.cell? ((⟨w6.heap.size, 0, none⟩ : Addr).add j) = some u := by
      rw [hw7]
      obtain ⟨ad, e1, _, h2⟩ := rd_lit w6 65 [Value.int .i64 (ix + 1), Value.int .i64 t, Value.int .i64 k, Value.slice (some ⟨gd, 0, none⟩) tx.length cd] (by simp)
      injection e1 with e1
      subst e1
      exact h2
     have hS7 : SgAt w7 G s rs (.slice A3 rs.length c3) ve tv := HS6.out.new hb7
     have hd7 : DatG w7 (G + 1) (.slice (some ⟨gd, 0, none⟩) tx.length cd) tx := HD6.out.keep fun q hq => hb7.block q (HD6.out.lt q hq).2
     have hs7 := hb7.size
     refine hK _ _ (HSK.out _ ((Below.alloc (Below.refl _ w6) (Nat.le_refl _) _).block G hG6) ((Below.alloc (Below.refl _ w6) (Nat.le_refl _) _).block E0 hE6)) (fun hHeld => ?_)
     clear hK K
     rw [show (w6.alloc (.cells #[Value.int .i64 (ix + 1), Value.int .i64 t, Value.int .i64 k, Value.slice (some ⟨gd, 0, none⟩) tx.length cd] 65)).drew = w7 from hw7.symm] at hHeld ⊢
     have HSK7 := Lib.hid (And.intro (hb7.block G hG6) (hb7.block E0 hE6))
     have HB7 := Lib.hid (HB6.out.trans (hb7.mono hs6))
     have HS7 := Lib.hid hS7
     have HD7 := Lib.hid hd7
     have HC7 := Lib.hid hc7
     clear hw7 hb7 hc7 hS7 hd7
     try simp only [Act.put, List.setIfInBounds_toArray, List.set_cons_zero, List.set_cons_succ]
     refine heldT_sole 7 (by simp) (by kernel_rfl) (fun K hK => ?_)
     simp only [List.getElem_cons_zero, List.getElem_cons_succ]
     rw [if_pos (by rfl)]
     refine wp_append_size (.tmp 59) (.tmp 61) 40 rfl (G + 1) 65 (.agg #[.int .i64 0, .int .i64 0, .int .i64 0, .slice none 0 0]) 4 48 Tryz.underlying40 info_entry rfl (by decide) _ rs.length (erCells rs) rfl HS7.out.ents ⟨w6.heap.size, 0, none⟩ 1 1 _ rfl rfl HC7.out (by simp [Value.oneCell']) (by unfold maxLen; omega) (by omega) (by omega) ?_
     intro v' w8 hown hg8 hf8
     obtain ⟨A8, c8, hv8, _⟩ := jrow_shape hown
     subst hv8
     have hneG : (Value.slice A3 rs.length c3).ownBlock ≠ some G := fun e => by have := (World.ownsRow.lt HS.out.ents G e).1; omega
     have hneE : (Value.slice A3 rs.length c3).ownBlock ≠ some E0 := fun e => by have := (World.ownsRow.lt HS.out.ents E0 e).2; omega
     have k8 : w8.heap[G]? = w7.heap[G]? := hg8.block G (by omega) (fun e => hneG e.symm)
     have k8e : w8.heap[E0]? = w7.heap[E0]? := hg8.block E0 (by omega) (fun e => hneE e.symm)
     have hs8 := hg8.size
     refine hK _ _ (HSK.out _ (k8.trans HSK7.out.1) (k8e.trans HSK7.out.2)) (fun hHeld => ?_)
     clear hK K
     have hB8 : Blk w8 G 106 _ := Eq.trans k8 HS7.out.blk
     have g3 : w8.cell? ⟨G, 3, none⟩ = some (.slice A3 rs.length c3) := hB8.cell 3
     have gz : w8.frozen? ⟨G, 3, none⟩ = false := hB8.frozen _
     have hP := HS7.out.push (q := ⟨.slice (some ⟨gd, 0, none⟩) tx.length cd, ⟨ix + 1, t, k, tx⟩⟩) HD7.out hown hg8
     have hb9 : Below G w (w8.setCell ⟨G, 3, none⟩ (.slice A8 (rs.length + 1) c8)) := ((HB7.out.mono (by omega : G ≤ w.heap.size)).grown hg8 (by omega) (fun j hj => by have := (World.ownsRow.lt HS.out.ents j hj).1; omega)).grown (grown_setCell w8 G 3 _) (by omega) (fun j hj => by injection hj with hj; omega)
     have HP := Lib.hid (And.intro hP hb9)
     have HK8 := Lib.hid (And.intro (k8.trans HSK7.out.1) (k8e.trans HSK7.out.2))
     clear hown hg8 hf8 k8 k8e hP hb9
     try simp only [Act.put, List.setIfInBounds_toArray, List.set_cons_zero, List.set_cons_succ]
     refine heldT_sole 8 (by simp) (by kernel_rfl) (fun K hK => ?_)
     simp only [List.getElem_cons_zero, List.getElem_cons_succ]
     go_simp
     refine hK _ _ (HSK.out _ HK8.out.1 HK8.out.2) (fun hHeld => ?_)
     clear hK K
     try simp only [Act.put, List.setIfInBounds_toArray, List.set_cons_zero, List.set_cons_succ]
     refine heldT_sole 9 (by simp) (by kernel_rfl) (fun K hK => ?_)
     simp only [List.getElem_cons_zero, List.getElem_cons_succ]
     go_simp
     refine hK _ _ (HSK.out _ HK8.out.1 HK8.out.2) (fun hHeld => ?_)
     clear hK K
     try simp only [Act.put, List.setIfInBounds_toArray, List.set_cons_zero, List.set_cons_succ]
     refine heldT_last (t := 10) (by simp) (by kernel_rfl) (by kernel_rfl) (fun K hK => ?_)
     simp only [List.getElem_cons_zero, List.getElem_cons_succ]
     go_simp
     refine hK _ _ ?_
     clear hK K hHeld g3 gz hB8
     generalize (w8.setCell ⟨G, 3, none⟩ (.slice A8 (rs.length + 1) c8)) = w9 at HP ⊢
     go_wp2_with fail
     go_ret
     refine ⟨by rw [HNN.out]; rfl, HP.out.2, (fun h => by rw [HNN.out] at h; cases h), fun q hq => ?_⟩
     rw [HNN.out] at hq
     injection hq with hq
     subst hq
     exact ⟨_, _, HP.out.1⟩
   ·have HFN := Lib.hid (HFI.out (by rw [HGO.out, if_pos (.inr (.inl e2))]))
    have e2' : ((us : Int) != (r.length : Int)) = true := by simp; omega
    clear HFI
    go_wp2_with fail
    go_ret
    exact HFN.out _ (Below.refl _ _)
  ·have HFN := Lib.hid (HFI.out (by rw [HGO.out, if_pos (.inl e1)]))
   clear HFI
   go_wp2_with fail
   go_ret
   exact HFN.out _ (Below.refl _ _)
end Go.Proofs.YtgeofijddhflaaaGreatDoor
set_option linter.unusedVariables false
namespace Go.Proofs.YtgeofijddhflaaaGreatDoor
open Oct
theorem rowsF_all (b : List UInt8) : ∀ f a, a ≤ b.length → (rowsF b f a).1.length ≤ b.length - a ∧ ∀ p ∈ (rowsF b f a).1, p.length ≤ 1048576
 | 0, a, _ => by simp [rowsF]
 | f + 1, a, ha => by
  unfold rowsF
  split
  ·simp
  ·split
   ·rename_i h1 h2
    obtain ⟨h3, h4, h5, _⟩ := open_form h2
    rw [List.length_drop] at h5
    obtain ⟨h6, h7⟩ := rowsF_all b f (a + (openS (b.drop a)).2.1) (by omega)
    refine ⟨by simp only [List.length_cons]; omega, fun p hp => ?_⟩
    rcases List.mem_cons.1 hp with rfl | hp
    ·exact h3
    ·exact h7 p hp
   ·simp
theorem rowsS_all (b : List UInt8) : (rowsS b).1.length ≤ b.length ∧ ∀ p ∈ (rowsS b).1, p.length ≤ 1048576 := by
 have := rowsF_all b (b.length + 1) 0 (by omega)
 exact ⟨by have := this.1; unfold rowsS; omega, this.2⟩
theorem closeS_lenJ {p : List UInt8} (h : p.length ≤ 1048576) : (closeS p).length ≤ 1048600 := by
 rw [closeS_eq (by omega), List.length_append, List.length_append, Crc.four_length]
 have := enc_len p.length (by omega)
 omega
structure RdI (k : Int) (b : List UInt8) (i : Nat) (s : SegP) (a : Int) : Prop where
 zero : i = 0 → s = ⟨k, 0, 0, [], []⟩ ∧ a = 0
 more : 0 < i → readSeg k b = (readRows ((rowsS b).1.drop i) a s).map fun s => (s, decide ((rowsS b).2.2 ≠ 0))
 key : s.k = k
 first : 0 ≤ s.first ∧ s.first ≤ 9223372036854775806
 last : -1 ≤ s.last.1
 at_ : 0 ≤ a ∧ a ≤ 1048600 * i
 len : s.ends.length = i ∧ s.l.length ≤ i
theorem RdI.start (k : Int) (b : List UInt8) : RdI k b 0 ⟨k, 0, 0, [], []⟩ 0 :=
 ⟨fun _ => ⟨rfl, rfl⟩, fun h => absurd h (by omega), rfl, ⟨Int.le_refl 0, by show (0 : Int) ≤ _; omega⟩, by show (-1 : Int) ≤ 0 - 1; omega, ⟨by omega, by omega⟩, rfl, Nat.le_refl _⟩
theorem takeHd_some {p : List UInt8} {f t : Int} (h : takeHd p = some (f, t)) : 1 ≤ f ∧ f ≤ 9223372036854775806 := by
 unfold takeHd at h
 split at h
 ·cases h
 ·rename_i h1
  have hm : (takeU maxI p).1 ≤ 9223372036854775807 := takeU_le maxI p
  unfold maxInt at h1
  split at h
  ·injection h with h
   injection h with h _
   omega
  ·cases h
theorem takeEn_some {p : List UInt8} {a : Int} {q : EntP} (h : takeEn p a = some q) : q.ix = a + 1 := by
 unfold takeEn at h
 split at h
 ·split at h
  ·cases h
  ·injection h with h
   rw [← h]
 ·cases h
section
variable {k : Int} {b : List UInt8} {i : Nat} {s : SegP} {a : Int}
theorem RdI.head {p : List UInt8} {f t : Int} (h : RdI k b 0 s a) (hp : (rowsS b).1[0]? = some p) (hpl : p.length ≤ 1048576) (ht : takeHd p = some (f, t)) : RdI k b 1 ⟨k, f, t, [], [((closeS p).length : Int)]⟩ ((closeS p).length : Int) := by
 have hf := takeHd_some ht
 have hl := closeS_lenJ hpl
 refine ⟨fun h => by omega, fun _ => ?_, rfl, ⟨by show (0 : Int) ≤ f; omega, hf.2⟩, by show (-1 : Int) ≤ f - 1; omega, ⟨by omega, by omega⟩, rfl, by simp⟩
 unfold readSeg
 cases hr : (rowsS b).1 with
 | nil => rw [hr] at hp; simp at hp
 | cons x r =>
  rw [hr] at hp
  injection hp with hp
  subst hp
  simp only [ht]
  rfl
theorem RdI.headBad {p : List UInt8} (hp : (rowsS b).1[0]? = some p) (ht : takeHd p = none) : readSeg k b = none := by
 unfold readSeg
 cases hr : (rowsS b).1 with
 | nil => rw [hr] at hp; simp at hp
 | cons x r =>
  rw [hr] at hp
  injection hp with hp
  subst hp
  simp only [ht]
theorem drop_at {α : Type} {l : List α} {i : Nat} {x : α} (h : l[i]? = some x) : l.drop i = x :: l.drop (i + 1) := by
 obtain ⟨h1, h2⟩ := List.getElem?_eq_some_iff.1 h
 rw [List.drop_eq_getElem_cons h1, h2]
theorem RdI.entry {p : List UInt8} {q : EntP} (h : RdI k b i s a) (hi : 0 < i) (hp : (rowsS b).1[i]? = some p) (hpl : p.length ≤ 1048576) (ht : takeEn p s.last.1 = some q) :
  RdI k b (i + 1) { s with l := s.l ++ [q], ends := s.ends ++ [a + (closeS p).length] } (a + (closeS p).length) := by
 have hl := closeS_lenJ hpl
 have hix := takeEn_some ht
 have hla := h.last
 refine ⟨fun e => by omega, fun _ => ?_, h.key, h.first, ?_, ⟨by have := h.at_.1; omega, by have := h.at_.2; omega⟩, by rw [List.length_append, h.len.1]; rfl, by rw [List.length_append]; have := h.len.2; simp; omega⟩
 ·rw [h.more hi, drop_at hp, readRows, ht]
 ·unfold SegP.last
  simp
  omega
theorem RdI.entryBad {p : List UInt8} (h : RdI k b i s a) (hi : 0 < i) (hp : (rowsS b).1[i]? = some p) (ht : takeEn p s.last.1 = none) : readSeg k b = none := by
 rw [h.more hi, drop_at hp, readRows, ht]
 rfl
theorem RdI.done (h : RdI k b i s a) (hi : i = (rowsS b).1.length) : readSeg k b = some (s, decide ((rowsS b).2.2 ≠ 0)) := by
 rcases Nat.eq_zero_or_pos i with h0 | h0
 ·obtain ⟨h1, h2⟩ := h.zero h0
  unfold readSeg
  rw [List.eq_nil_of_length_eq_zero (by omega : (rowsS b).1.length = 0), h1]
 ·rw [h.more h0, List.drop_of_length_le (by omega)]
  rfl
end
end Go.Proofs.YtgeofijddhflaaaGreatDoor
set_option linter.unusedVariables false
set_option linter.unusedSimpArgs false
namespace Go.Proofs.YtgeofijddhflaaaGreatDoor
open Go.RowKit Oct
theorem size_list (s : ByteArray) : s.size = s.data.toList.length := by rw [Array.length_toList]; rfl
theorem jNum_cons (c : UInt8) (r : List UInt8) : jNum (c :: r) = if r.length < 1 ∨ 9 < r.length ∨ c ≠ 106 then 0 else if (parseS r).2.2 ≠ 0 ∨ (parseS r).2.1 ≠ (r.length : Int) then 0 else (parseS r).1 := rfl
set_option maxHeartbeats 2000000 in
set_option maxRecDepth 100000 in
theorem jnumber_any (s : ByteArray) (hs : s.size ≤ 140737488351232) (w : World) (hE : ErrR w) :
  Calls Tryz.prog 98 #[.string s] w fun e w' => e = .returned (.int .i64 (jNum s.data.toList)) ∧ Below w.heap.size w w' := by
 have HE := Lib.hid hE
 clear hE
 obtain ⟨R, hR⟩ : ∃ R, R = jNum s.data.toList := ⟨_, rfl⟩
 rw [← hR]
 by_cases hlen : s.size < 2 ∨ 10 < s.size
 ·have h0 : R = 0 := by
   rw [hR]
   have hz := size_list s
   rcases hd : s.data.toList with _ | ⟨c, r⟩
   ·rfl
   ·rw [hd, List.length_cons] at hz
    rw [jNum_cons, if_pos (by omega)]
  subst h0
  clear hR
  go_enter Tryz.func98, Tryz.ntmps98
  rcases hlen with hlen | hlen
  ·go_wp2_with fail
   go_ret
   exact ⟨rfl, Below.refl _ _⟩
  ·go_wp2_with fail
   go_ret
   exact ⟨rfl, Below.refl _ _⟩
 ·have hl2 : 2 ≤ s.size := by omega
  have hl10 : s.size ≤ 10 := by omega
  clear hlen
  obtain ⟨ch, r, hsd⟩ : ∃ ch r, s.data.toList = ch :: r := by
   rcases e : s.data.toList with _ | ⟨a, b⟩
   ·exfalso
    have hz := size_list s
    rw [e, List.length_nil] at hz
    omega
   ·exact ⟨a, b, rfl⟩
  have hsz : s.size = r.length + 1 := by
   show s.data.size = _
   rw [← Array.length_toList, hsd, List.length_cons]
  have hex : (s.extract 1 s.size).data.toList = r := by
   rw [ByteArray.data_extract, Array.toList_extract, hsd, hsz]
   simp
  have hpos : 0 < s.size := by omega
  have hs0 : s[0]'hpos = ch := by
   have : s.data.toList[0]'(by rw [hsd]; simp) = ch := by simp [hsd]
   rw [Array.getElem_toList] at this
   exact this
  have hxs : (s.extract 1 s.size).size ≤ 140737488351232 := by
   show (s.extract 1 s.size).data.size ≤ _
   rw [← Array.length_toList, hex]
   omega
  have HPA := Lib.hid (parse_any (s.extract 1 s.size) hxs w HE.out)
  rw [hex] at HPA
  have hJ : R = if ch ≠ 106 then 0 else if (parseS r).2.2 ≠ 0 ∨ (parseS r).2.1 ≠ (r.length : Int) then 0 else (parseS r).1 := by
   rw [hR, hsd, jNum_cons]
   by_cases hc : ch = 106
   ·rw [if_neg (show ¬ (r.length < 1 ∨ 9 < r.length ∨ ch ≠ 106) from by rintro (h | h | h); omega; omega; exact h hc), if_neg (show ¬ ch ≠ 106 from fun h => h hc)]
   ·rw [if_pos (show (r.length < 1 ∨ 9 < r.length ∨ ch ≠ 106) from .inr (.inr hc)), if_pos (show ch ≠ 106 from hc)]
  obtain ⟨pn, hpn⟩ : ∃ pn, pn = (parseS r).1 := ⟨_, rfl⟩
  obtain ⟨pu, hpu⟩ : ∃ pn, pn = (parseS r).2.1 := ⟨_, rfl⟩
  obtain ⟨pe, hpe⟩ : ∃ pn, pn = (parseS r).2.2 := ⟨_, rfl⟩
  rw [← hpn, ← hpu, ← hpe] at HPA hJ
  have HJ := Lib.hid hJ
  have HSZ := Lib.hid (show (r.length : Int) = (s.size : Int) - 1 by omega)
  have hch : (s[0].toNat : Int) = 106 ↔ ch = 106 := by
   rw [hs0]
   constructor
   ·intro e
    refine UInt8.toNat_inj.1 ?_
    show ch.toNat = 106
    omega
   ·rintro rfl
    rfl
  have HCH := Lib.hid hch
  clear hR hsd hex hxs hpn hpu hpe hs0 hsz hJ hch
  go_enter Tryz.func98, Tryz.ntmps98
  by_cases h1 : (s[0].toNat : Int) = 106
  ·have HC := Lib.hid (HCH.out.1 h1)
   go_wp2_with fail
   refine HPA.out.mono ?_
   rintro e w2 ⟨rfl, hb2⟩
   have HB := Lib.hid hb2
   clear hb2 HPA
   by_cases h2 : pe = 0
   ·subst h2
    by_cases h3 : (pu : Int) = (s.size : Int) - 1
    ·have H3 := Lib.hid h3
     have hRR : R = pn := by rw [HJ.out, if_neg (show ¬ ch ≠ 106 from fun h => h HC.out), if_neg (show ¬ ((0 : Int) ≠ 0 ∨ (pu : Int) ≠ (r.length : Int)) from by rintro (h | h); exact h rfl; exact h (by rw [HSZ.out]; exact H3.out))]
     clear HJ
     subst hRR
     go_wp2_with fail
     go_ret
     exact ⟨rfl, HB.out⟩
    ·have H3 := Lib.hid h3
     have hRR : R = 0 := by rw [HJ.out, if_neg (show ¬ ch ≠ 106 from fun h => h HC.out), if_pos (show ((0 : Int) ≠ 0 ∨ (pu : Int) ≠ (r.length : Int)) from .inr (by rw [HSZ.out]; exact H3.out))]
     clear HJ
     subst hRR
     go_wp2_with fail
     go_ret
     exact ⟨rfl, HB.out⟩
   ·have H2 := Lib.hid h2
    have hRR : R = 0 := by rw [HJ.out, if_neg (show ¬ ch ≠ 106 from fun h => h HC.out), if_pos (show (pe ≠ 0 ∨ (pu : Int) ≠ (r.length : Int)) from .inl H2.out)]
    clear HJ
    subst hRR
    go_wp2_with fail
    go_ret
    exact ⟨rfl, HB.out⟩
  ·have HC := Lib.hid (fun e => h1 (HCH.out.2 e))
   have hne : ((s[0].toNat : Int) != 106) = true := bne_iff_ne.2 h1
   have hRR : R = 0 := by rw [HJ.out, if_pos (show ch ≠ 106 from HC.out)]
   clear HJ
   subst hRR
   go_wp2_with fail
   go_ret
   exact ⟨rfl, Below.refl _ _⟩
end Go.Proofs.YtgeofijddhflaaaGreatDoor
set_option linter.unusedVariables false
set_option linter.unusedSimpArgs false
namespace Go.Proofs.YtgeofijddhflaaaGreatDoor
open Go.RowKit Oct
theorem info_segp : (Tryz.prog.info? 108).map (fun i => (i.zero, i.size, i.bytes)) = some (some (.pointer none), 1, 8) := by kernel_rfl
theorem row_empty (w : World) (e : TypeId) (size : Nat) : (w.alloc (.cells #[] e)).ownsRow w.heap.size e size (.slice (some ⟨w.heap.size, 0, none⟩) 0 0) 0 [] :=
 ⟨by simp, .inr ⟨w.heap.size, 0, #[], rfl, Nat.le_refl _, by show (w.heap.push _)[w.heap.size]? = _; simp, Nat.le_refl _, Nat.zero_le _, by simp, by simp⟩⟩
theorem rd_cells {w : World} {B : Nat} {ad : Addr} {xs : List Value} (h : Rd w B (some ad) xs) (hn : 0 < xs.length) : ∀ j u, xs[j]? = some u → w.cell? (ad.add j) = some u := by
 obtain ⟨ad', e, _, hc⟩ := h hn
 injection e with e
 subst e
 exact hc
theorem jrun_append_zero {P : Program} (w : World) (base : Nat) (t ty e : TypeId) (i : TypeInfo) (size : Nat) (ht : P.underlying t = some (.slice e)) (hi : P.info? e = some i)
  (v : Value) (n : Nat) (xs : List Value) (hown : w.ownsRow base e size v n xs) (A : Option Addr) (c : Nat) :
  (Builtin.append_ #[t, t] ty #[v, .slice A 0 c]).run P w = .ok v w := by
 rcases hown.2 with ⟨rfl, rfl⟩ | ⟨g, cap, cur, rfl, _, _, hnc, _⟩
 ·cases A <;> simp [Builtin.append_, run_underlying ht, sizeOf, typeInfo, hi, Builtin.lenOf, Builtin.firstCells, loadCells, loadCellsFrom]
 ·cases A <;> simp [Builtin.append_, run_underlying ht, sizeOf, typeInfo, hi, Builtin.lenOf, Builtin.firstCells, hnc, storeCells, loadCells, loadCellsFrom]
theorem jwp_append_fresh {P : Program} {w : World} {o : Oper} {a : Act} {K : Act → World → Prop} {Q : Exit → Act → World → Prop} (s x : Operand) (t : TypeId)
  (ho : o.op = .call { callee := .builtin .append, args := #[s, x], argTypes := #[t, t] })
  (base : Nat) (e : TypeId) (z : Value) (size bytes : Nat) (ht : P.underlying t = some (.slice e)) (hinfo : (P.info? e).map (fun i => (i.zero, i.size, i.bytes)) = some (some z, size, bytes)) (hzs : z.cells.size = size) (hsz : 0 < size)
  (D : Option Addr) (hs : a.eval s = .slice D 0 0) (hown : w.ownsRow base e size (.slice D 0 0) 0 [])
  (A : Option Addr) (m c : Nat) (news : List Value) (hx : a.eval x = .slice A m c) (hl : news.length = m * size) (hnews : 0 < m → ∃ ad, A = some ad ∧ ∀ j u, news[j]? = some u → w.cell? (ad.add j) = some u) (h1 : ∀ u ∈ news, u.oneCell' = true)
  (h63 : m ≤ maxLen) (hbytes : m * bytes ≤ 140737488355328) (hbase : base ≤ w.heap.size)
  (h : ∀ v' w', w'.ownsRow base e size v' m news → Below w.heap.size w w' → K (a.put o.dst v') w') : o.wp P a w K Q := by
 obtain ⟨i, hi, hz, hsize, hby⟩ := info_parts hinfo
 rcases Nat.eq_zero_or_pos m with hm | hm
 ·subst hm
  have hn : news = [] := List.eq_nil_of_length_eq_zero (by simpa using hl)
  subst hn
  have hrun := jrun_append_zero (P := P) w base t o.type e i size ht hi _ 0 [] hown A c
  unfold Oper.wp execOp
  simp only [ho, resolve, invoke, builtin, Sem.run_bind, Sem.run_pure, Result.andThen_ok, List.map_toArray, List.map_cons, List.map_nil, hs, hx, hrun]
  exact h _ _ hown (Below.refl _ _)
 ·obtain ⟨ad, rfl, hc⟩ := hnews hm
  have hnone : D = none → (0 : Nat) = 0 ∧ (0 : Nat) = 0 := fun _ => ⟨rfl, rfl⟩
  have key : ∀ v' w', w'.ownsRow w.heap.size e size v' (0 + m) ([] ++ news) → w.grownBy w' none → K (a.put o.dst v') w' := fun v' w' h2 h3 => by
   rw [Nat.zero_add, List.nil_append] at h2
   refine h v' w' ⟨h2.1, ?_⟩ (below_of_grown h3)
   rcases h2.2 with h4 | ⟨g, cap, cur, hv, hb2, r⟩
   ·exact .inl h4
   ·exact .inr ⟨g, cap, cur, hv, by omega, r⟩
  cases D with
  | some b =>
   obtain ⟨v', w', hrun, r1, r2⟩ := run_append_arg_grows (P := P) w t o.type e i z size bytes ht hi hz hsize hby hzs hsz b 0 0 [] (by simp) (fun j u hj => by simp at hj) ad m c news hl hc (by omega) (by rw [Nat.zero_add]; exact h63) (by rw [Nat.zero_add]; exact hbytes)
   unfold Oper.wp execOp
   simp only [ho, resolve, invoke, builtin, Sem.run_bind, Sem.run_pure, Result.andThen_ok, List.map_toArray, List.map_cons, List.map_nil, hs, hx, hrun]
   exact key _ _ r1 r2
  | none =>
   exact wp_append_size s x t ho w.heap.size e z size bytes ht hinfo hzs hsz (.slice none 0 0) 0 [] hs (World.ownsRow_nil _ _ _ _) ad m c news hx hl hc h1 (by rw [Nat.zero_add]; exact h63) (by rw [Nat.zero_add]; exact hbytes) (Nat.le_refl _) fun v' w' h2 h3 _ => key v' w' h2 h3
theorem wpList_append_fresh {P : Program} {w : World} {ops : Array Oper} {rest : List Oper} {o : Oper} {a : Act} {Q : Exit → Act → World → Prop} (hgd : o.guard = none) (s x : Operand) (t : TypeId)
  (ho : o.op = .call { callee := .builtin .append, args := #[s, x], argTypes := #[t, t] })
  (base : Nat) (e : TypeId) (z : Value) (size bytes : Nat) (ht : P.underlying t = some (.slice e)) (hinfo : (P.info? e).map (fun i => (i.zero, i.size, i.bytes)) = some (some z, size, bytes)) (hzs : z.cells.size = size) (hsz : 0 < size)
  (D : Option Addr) (hs : a.eval s = .slice D 0 0) (hown : w.ownsRow base e size (.slice D 0 0) 0 [])
  (A : Option Addr) (m c : Nat) (news : List Value) (hx : a.eval x = .slice A m c) (hl : news.length = m * size) (hnews : 0 < m → ∃ ad, A = some ad ∧ ∀ j u, news[j]? = some u → w.cell? (ad.add j) = some u) (h1 : ∀ u ∈ news, u.oneCell' = true)
  (h63 : m ≤ maxLen) (hbytes : m * bytes ≤ 140737488355328) (hbase : base ≤ w.heap.size)
  (h : ∀ v' w', w'.ownsRow base e size v' m news → Below w.heap.size w w' → wpList P ops Q rest (a.put o.dst v') w') : wpList P ops Q (o :: rest) a w :=
 wpList_plain hgd fun _ hK => jwp_append_fresh s x t ho base e z size bytes ht hinfo hzs hsz D hs hown A m c news hx hl hnews h1 h63 hbytes hbase fun v' w' h2 h3 => hK _ _ (h v' w' h2 h3)
set_option maxHeartbeats 1000000 in
set_option maxRecDepth 100000 in
theorem jcloneE_any (A : Option Addr) (n c : Nat) (xs : List Value) (w : World) (hr : Rd w w.heap.size A xs) (hx : xs.length = n * 4) (h1 : ∀ u ∈ xs, u.oneCell' = true) (hn : n ≤ 1099511627776) :
  Calls Tryz.prog 113 #[.slice A n c] w fun e w' => ∃ v, e = .returned v ∧ w'.ownsRow w.heap.size 65 4 v n xs ∧ Below w.heap.size w w' := by
 have HR := Lib.hid hr
 have HX := Lib.hid hx
 cases A with
 | none =>
  have h0 : xs = [] := by
   refine Classical.byContradiction fun h => ?_
   obtain ⟨ad, h1, _⟩ := hr (List.length_pos_iff.2 h)
   cases h1
  subst h0
  obtain rfl : n = 0 := by simp at hx; omega
  clear hr hx
  have he : ∀ W : World, (binOp .eql 40 (.slice none 0 c) (.slice none 0 0)).run Tryz.prog W = .ok (.bool true) W := fun _ => rfl
  go_enter Tryz.func113, Tryz.ntmps113
  go_wp2_with fail
  go_ret
  exact ⟨_, rfl, World.ownsRow_nil _ _ _ _, Below.refl _ _⟩
 | some ad =>
  have he : ∀ W : World, (binOp .eql 40 (.slice (some ad) n c) (.slice none 0 0)).run Tryz.prog W = .ok (.bool false) W := fun _ => rfl
  have hbA : Below w.heap.size w (w.alloc (.cells #[] 65)) := (Below.refl _ w).alloc (Nat.le_refl _) _
  have HB := Lib.hid hbA
  have HO := Lib.hid (row_empty w 65 4)
  have HRA := Lib.hid (hr.below hbA)
  clear hr hx hbA
  go_enter Tryz.func113, Tryz.ntmps113
  go_wp2_with (at_builtin; refine wpList_append_fresh rfl (.tmp 5) (.tmp 6) 40 rfl w.heap.size 65 (.agg #[.int .i64 0, .int .i64 0, .int .i64 0, .slice none 0 0]) 4 48 Tryz.underlying40 info_entry rfl (by decide) (some ⟨w.heap.size, 0, none⟩) rfl HO.out (some ad) n c xs rfl HX.out (fun hm => ⟨ad, rfl, rd_cells HRA.out (by rw [HX.out]; omega)⟩) h1 (by unfold maxLen; omega) (by omega) (by simp) ?_; intro v1 w1 hov hb; have HV := Lib.hid hov; have HB1 := Lib.hid (HB.out.trans (hb.mono (by simp))); clear hov hb)
  go_ret
  exact ⟨_, rfl, HV.out, HB1.out⟩
set_option maxHeartbeats 1000000 in
set_option maxRecDepth 100000 in
theorem jcloneI_any (A : Option Addr) (n c : Nat) (xs : List Value) (w : World) (hr : Rd w w.heap.size A xs) (hx : xs.length = n * 1) (h1 : ∀ u ∈ xs, u.oneCell' = true) (hn : n ≤ 1099511627776) :
  Calls Tryz.prog 114 #[.slice A n c] w fun e w' => ∃ v, e = .returned v ∧ w'.ownsRow w.heap.size 3 1 v n xs ∧ Below w.heap.size w w' := by
 have HR := Lib.hid hr
 have HX := Lib.hid hx
 cases A with
 | none =>
  have h0 : xs = [] := by
   refine Classical.byContradiction fun h => ?_
   obtain ⟨ad, h1, _⟩ := hr (List.length_pos_iff.2 h)
   cases h1
  subst h0
  obtain rfl : n = 0 := by simp at hx; omega
  clear hr hx
  have he : ∀ W : World, (binOp .eql 41 (.slice none 0 c) (.slice none 0 0)).run Tryz.prog W = .ok (.bool true) W := fun _ => rfl
  go_enter Tryz.func114, Tryz.ntmps114
  go_wp2_with fail
  go_ret
  exact ⟨_, rfl, World.ownsRow_nil _ _ _ _, Below.refl _ _⟩
 | some ad =>
  have he : ∀ W : World, (binOp .eql 41 (.slice (some ad) n c) (.slice none 0 0)).run Tryz.prog W = .ok (.bool false) W := fun _ => rfl
  have hbA : Below w.heap.size w (w.alloc (.cells #[] 3)) := (Below.refl _ w).alloc (Nat.le_refl _) _
  have HB := Lib.hid hbA
  have HO := Lib.hid (row_empty w 3 1)
  have HRA := Lib.hid (hr.below hbA)
  clear hr hx hbA
  go_enter Tryz.func114, Tryz.ntmps114
  go_wp2_with (at_builtin; refine wpList_append_fresh rfl (.tmp 5) (.tmp 6) 41 rfl w.heap.size 3 (.int .i64 0) 1 8 Tryz.underlying41 info_int rfl (by decide) (some ⟨w.heap.size, 0, none⟩) rfl HO.out (some ad) n c xs rfl HX.out (fun hm => ⟨ad, rfl, rd_cells HRA.out (by rw [HX.out]; omega)⟩) h1 (by unfold maxLen; omega) (by omega) (by simp) ?_; intro v1 w1 hov hb; have HV := Lib.hid hov; have HB1 := Lib.hid (HB.out.trans (hb.mono (by simp))); clear hov hb)
  go_ret
  exact ⟨_, rfl, HV.out, HB1.out⟩
set_option maxHeartbeats 1000000 in
set_option maxRecDepth 100000 in
theorem jcloneS_any (A : Option Addr) (n c : Nat) (xs : List Value) (w : World) (hr : Rd w w.heap.size A xs) (hx : xs.length = n * 1) (h1 : ∀ u ∈ xs, u.oneCell' = true) (hn : n ≤ 1099511627776) :
  Calls Tryz.prog 59 #[.slice A n c] w fun e w' => ∃ v, e = .returned v ∧ w'.ownsRow w.heap.size 108 1 v n xs ∧ Below w.heap.size w w' := by
 have HR := Lib.hid hr
 have HX := Lib.hid hx
 cases A with
 | none =>
  have h0 : xs = [] := by
   refine Classical.byContradiction fun h => ?_
   obtain ⟨ad, h1, _⟩ := hr (List.length_pos_iff.2 h)
   cases h1
  subst h0
  obtain rfl : n = 0 := by simp at hx; omega
  clear hr hx
  have he : ∀ W : World, (binOp .eql 49 (.slice none 0 c) (.slice none 0 0)).run Tryz.prog W = .ok (.bool true) W := fun _ => rfl
  go_enter Tryz.func59, Tryz.ntmps59
  go_wp2_with fail
  go_ret
  exact ⟨_, rfl, World.ownsRow_nil _ _ _ _, Below.refl _ _⟩
 | some ad =>
  have he : ∀ W : World, (binOp .eql 49 (.slice (some ad) n c) (.slice none 0 0)).run Tryz.prog W = .ok (.bool false) W := fun _ => rfl
  have hbA : Below w.heap.size w (w.alloc (.cells #[] 108)) := (Below.refl _ w).alloc (Nat.le_refl _) _
  have HB := Lib.hid hbA
  have HO := Lib.hid (row_empty w 108 1)
  have HRA := Lib.hid (hr.below hbA)
  clear hr hx hbA
  go_enter Tryz.func59, Tryz.ntmps59
  go_wp2_with (at_builtin; refine wpList_append_fresh rfl (.tmp 5) (.tmp 6) 49 rfl w.heap.size 108 (.pointer none) 1 8 Tryz.underlying49 info_segp rfl (by decide) (some ⟨w.heap.size, 0, none⟩) rfl HO.out (some ad) n c xs rfl HX.out (fun hm => ⟨ad, rfl, rd_cells HRA.out (by rw [HX.out]; omega)⟩) h1 (by unfold maxLen; omega) (by omega) (by simp) ?_; intro v1 w1 hov hb; have HV := Lib.hid hov; have HB1 := Lib.hid (HB.out.trans (hb.mono (by simp))); clear hov hb)
  go_ret
  exact ⟨_, rfl, HV.out, HB1.out⟩
end Go.Proofs.YtgeofijddhflaaaGreatDoor
set_option linter.unusedVariables false
namespace Go.Proofs.YtgeofijddhflaaaGreatDoor
open Oct
theorem foldl_dv : ∀ (l : List UInt8) (n : Nat), (∀ c ∈ l, isD c = true) → l.foldl dv n + 1 ≤ (n + 1) * 10 ^ l.length
 | [], n, _ => by simp
 | c :: r, n, h => by
  have hc : c.toNat ≤ 57 := by
   have := h c List.mem_cons_self
   unfold isD at this
   simp at this
   exact this.2
  have ih := foldl_dv r (dv n c) fun x hx => h x (List.mem_cons_of_mem _ hx)
  have h1 : dv n c + 1 ≤ (n + 1) * 10 := by unfold dv; omega
  rw [List.foldl_cons, List.length_cons, Nat.pow_succ]
  refine Nat.le_trans ih ?_
  rw [show (n + 1) * (10 ^ r.length * 10) = ((n + 1) * 10) * 10 ^ r.length by rw [Nat.mul_comm (10 ^ r.length) 10, Nat.mul_assoc]]
  exact Nat.mul_le_mul_right _ h1
theorem mem_tw {p : UInt8 → Bool} : ∀ {l : List UInt8} {c : UInt8}, c ∈ l.takeWhile p → p c = true
 | [], c, h => by cases h
 | a :: r, c, h => by
  rw [List.takeWhile_cons] at h
  split at h
  ·rename_i h1
   rcases List.mem_cons.1 h with h2 | h2
   ·rw [h2]; exact h1
   ·exact mem_tw h2
  ·cases h
theorem jNum_range (n : Nm) : 0 ≤ jNum n ∧ jNum n ≤ 999999999 := by
 unfold jNum
 split
 ·omega
 ·rename_i c r
  split
  ·omega
  ·rename_i h1
   split
   ·omega
   ·rename_i h2
    unfold parseS
    split
    ·omega
    ·split
     ·omega
     ·split
      ·omega
      ·have hl : (lead r).length ≤ r.length := by
        unfold lead
        exact (List.takeWhile_sublist _).length_le
       have h3 := foldl_dv (lead r) 0 fun c hc => mem_tw hc
       have h4 : 10 ^ (lead r).length ≤ 10 ^ 9 := Nat.pow_le_pow_right (by omega) (by omega)
       simp only at h3 h4 ⊢
       unfold valD
       omega
theorem takeN_vals : ∀ (n : Nat) (b : List UInt8) (vals : List Int) (r : List UInt8), takeN n b = (vals, some r) → ∀ v ∈ vals, 0 ≤ v ∧ v ≤ 9223372036854775807
 | 0, b, vals, r, h => by
  injection h with h _
  subst h
  intro v hv
  cases hv
 | n + 1, b, vals, r, h => by
  unfold takeN at h
  split at h
  ·injection h with _ h
   cases h
  ·rename_i h1
   injection h with h2 h3
   subst h2
   intro v hv
   rcases List.mem_cons.1 hv with rfl | hv
   ·have hm : (takeU maxU b).1 ≤ 18446744073709551615 := takeU_le maxU b
    refine ⟨by omega, ?_⟩
    unfold unfold1
    split <;> omega
   ·exact takeN_vals n _ _ r (Prod.ext rfl h3) v hv
structure SegOk (s : SegP) : Prop where
 num : SegB s
 ends : s.ends.length = s.l.length + 1
theorem takeHd_term {p : List UInt8} {f t : Int} (h : takeHd p = some (f, t)) : 0 ≤ t ∧ t ≤ 9223372036854775807 := by
 unfold takeHd at h
 split at h
 ·cases h
 ·split at h
  ·rename_i t' h1
   injection h with h
   injection h with _ h
   subst h
   exact takeN_vals _ _ _ _ h1 _ (List.mem_singleton.2 rfl)
  ·cases h
theorem takeEn_num {p : List UInt8} {a : Int} {q : EntP} (h : takeEn p a = some q) : (0 ≤ q.tm ∧ q.tm ≤ 9223372036854775807) ∧ (0 ≤ q.kd ∧ q.kd ≤ 9223372036854775807) ∧ q.ix = a + 1 ∧ a < 9223372036854775806 := by
 unfold takeEn at h
 split at h
 ·rename_i t k r h1
  split at h
  ·cases h
  ·rename_i h2
   injection h with h
   subst h
   unfold maxInt at h2
   exact ⟨takeN_vals _ _ _ _ h1 _ (by simp), takeN_vals _ _ _ _ h1 _ (by simp), rfl, by omega⟩
 ·cases h
theorem SegB.last {s : SegP} (h : SegB s) : -1 ≤ s.last.1 ∨ (-9223372036854775808 ≤ s.last.1 ∧ s.last.1 ≤ 9223372036854775807) := by
 unfold SegP.last
 split
 ·have := h.first; exact .inl (by show -1 ≤ s.first - 1; omega)
 ·rename_i e he
  exact .inr (h.ent e (List.mem_of_getLast? he)).1
theorem readRows_ok : ∀ (rows : List (List UInt8)) (a : Int) (s s' : SegP), readRows rows a s = some s' → SegOk s → 0 ≤ a → (∀ p ∈ rows, p.length ≤ 1048576) → a + 1048600 * rows.length ≤ 4611686018427387904 → SegOk s' ∧ s'.k = s.k ∧ s'.first = s.first
 | [], a, s, s', h, hs, _, _, _ => by
  injection h with h
  subst h
  exact ⟨hs, rfl, rfl⟩
 | p :: r, a, s, s', h, hs, ha, hp, hl => by
  unfold readRows at h
  split at h
  ·cases h
  ·rename_i e he
   have h1 := takeEn_num he
   have h2 := closeS_lenJ (hp p List.mem_cons_self)
   rw [List.length_cons] at hl
   have h4 := hs.num.last
   have hok : SegOk { s with l := s.l ++ [e], ends := s.ends ++ [a + (closeS p).length] } := by
    refine ⟨⟨hs.num.k, hs.num.first, hs.num.term, fun x hx => ?_, fun n hn => ?_⟩, ?_⟩
    ·rcases List.mem_append.1 hx with hx | hx
     ·exact hs.num.ent x hx
     ·obtain rfl := List.mem_singleton.1 hx
      omega
    ·rcases List.mem_append.1 hn with hn | hn
     ·exact hs.num.ends n hn
     ·obtain rfl := List.mem_singleton.1 hn
      omega
    ·show (s.ends ++ [_]).length = (s.l ++ [e]).length + 1
     rw [List.length_append, List.length_append, hs.ends]
     rfl
   have := readRows_ok r _ _ _ h hok (by omega) (fun x hx => hp x (List.mem_cons_of_mem _ hx)) (by omega)
   exact this
theorem readSeg_ok {k : Int} {b : List UInt8} {s : SegP} {t : Bool} (h : readSeg k b = some (s, t)) (hk : 0 ≤ k ∧ k ≤ 999999999) (hb : b.length ≤ 1000000000) : SegB s ∧ s.k = k ∧ (s.ends = [] ∧ s.l = [] ∨ SegOk s ∧ 1 ≤ s.first) := by
 have hr := rowsS_all b
 unfold readSeg at h
 split at h
 ·injection h with h
  injection h with h _
  subst h
  exact ⟨⟨by simp only; omega, by simp, by simp, by simp, by simp⟩, rfl, .inl ⟨rfl, rfl⟩⟩
 ·rename_i p r hpr
  split at h
  ·cases h
  ·rename_i f t' hd
   have h1 := takeHd_some hd
   have h2 := takeHd_term hd
   rw [hpr] at hr
   have h3 := closeS_lenJ (hr.2 p List.mem_cons_self)
   rw [List.length_cons] at hr
   obtain ⟨s', hs', e⟩ := Option.map_eq_some_iff.1 h
   injection e with e _
   subst e
   have hok : SegOk ⟨k, f, t', [], [((closeS p).length : Int)]⟩ := by
    refine ⟨⟨by simp only; omega, by simp only; omega, by simp only; omega, by simp, fun n hn => ?_⟩, rfl⟩
    obtain rfl := List.mem_singleton.1 hn
    omega
   have := readRows_ok r _ _ _ hs' hok (by omega) (fun x hx => hr.2 x (List.mem_cons_of_mem _ hx)) (by have := hr.1; omega)
   exact ⟨this.1.num, this.2.1, .inr ⟨this.1, by rw [this.2.2]; exact h1.1⟩⟩
theorem listFiles_snoc (l : List (Nm × FD)) (q : Nm × FD) : listFiles (l ++ [q]) = (listFiles l).bind fun x => if jNum q.1 = 0 then some x else (readSeg (jNum q.1) q.2.b).map fun s => x ++ [s] := by
 induction l with
 | nil =>
  simp only [List.nil_append, listFiles, Option.bind_some]
  split
  ·rfl
  ·cases readSeg (jNum q.1) q.2.b <;> rfl
 | cons y r ih =>
  simp only [List.cons_append, listFiles]
  split
  ·exact ih
  ·cases readSeg (jNum y.1) y.2.b with
   | none => rfl
   | some s =>
    simp only [ih]
    cases listFiles r with
    | none => rfl
    | some x =>
     simp only [Option.bind_some, Option.map_some]
     split
     ·rfl
     ·cases readSeg (jNum q.1) q.2.b <;> rfl
theorem listFiles_none {l r : List (Nm × FD)} (h : listFiles l = none) : listFiles (l ++ r) = none := by
 induction r generalizing l with
 | nil => rw [List.append_nil]; exact h
 | cons x r ih =>
  rw [show l ++ x :: r = (l ++ [x]) ++ r by simp]
  refine ih ?_
  rw [listFiles_snoc, h]
  rfl
theorem listFiles_ok : ∀ {l : List (Nm × FD)} {x : List (SegP × Bool)}, listFiles l = some x → (∀ q ∈ l, q.2.b.length ≤ 1000000000) → x.length ≤ l.length ∧ ∀ y ∈ x, SegB y.1 ∧ (1 ≤ y.1.k ∧ y.1.k ≤ 999999999) ∧ (y.1.ends = [] ∧ y.1.l = [] ∨ SegOk y.1 ∧ 1 ≤ y.1.first)
 | [], x, h, _ => by
  injection h with h
  subst h
  exact ⟨Nat.le_refl _, by simp⟩
 | q :: r, x, h, hb => by
  have hbr : ∀ q ∈ r, q.2.b.length ≤ 1000000000 := fun y hy => hb y (List.mem_cons_of_mem _ hy)
  unfold listFiles at h
  split at h
  ·have := listFiles_ok h hbr
   exact ⟨by rw [List.length_cons]; omega, this.2⟩
  ·rename_i h0
   split at h
   ·cases h
   ·rename_i s hs
    obtain ⟨x', hx', rfl⟩ := Option.map_eq_some_iff.1 h
    have h1 := listFiles_ok hx' hbr
    have hk := jNum_range q.1
    have h2 := readSeg_ok (t := s.2) (s := s.1) hs hk (hb q List.mem_cons_self)
    refine ⟨by rw [List.length_cons, List.length_cons]; omega, fun y hy => ?_⟩
    rcases List.mem_cons.1 hy with rfl | hy
    ·exact ⟨h2.1, by rw [h2.2.1]; omega, h2.2.2⟩
    ·exact h1.2 y hy
theorem listOk_lt : ∀ {l : List (SegP × Bool)}, listOk l = true → l.Pairwise fun x y => x.1.k < y.1.k
 | [], _ => List.Pairwise.nil
 | [a], _ => List.pairwise_singleton _ _
 | a :: b :: r, h => by
  unfold listOk at h
  simp only [Bool.and_eq_true, decide_eq_true_eq] at h
  have ih := listOk_lt h.2
  have h1 := List.pairwise_cons.1 ih
  refine List.pairwise_cons.2 ⟨fun y hy => ?_, ih⟩
  rcases List.mem_cons.1 hy with rfl | hy
  ·omega
  ·have := h1.1 y hy
   omega
theorem sorted_one {l m : List (SegP × Bool)} (hp : l.Perm m) (hl : l.Pairwise fun x y => x.1.k ≤ y.1.k) (hm : m.Pairwise fun x y => x.1.k ≤ y.1.k) (h : listOk m = true) : l = m := by
 have hlt := listOk_lt h
 have hinj : ∀ a ∈ m, ∀ b ∈ m, a.1.k = b.1.k → a = b := by
  clear hp hl hm h
  induction m with
  | nil => intro a ha; cases ha
  | cons x r ih =>
   have h1 := List.pairwise_cons.1 hlt
   intro a ha b hb e
   rcases List.mem_cons.1 ha with ea | ea <;> rcases List.mem_cons.1 hb with eb | eb
   ·rw [ea, eb]
   ·have := h1.1 b eb; rw [ea] at e; omega
   ·have := h1.1 a ea; rw [eb] at e; omega
   ·exact ih h1.2 a ea b eb e
 exact List.Perm.eq_of_pairwise (le := fun x y : SegP × Bool => x.1.k ≤ y.1.k) (fun a b ha hb h1 h2 => hinj a (hp.mem_iff.1 ha) b hb (by omega)) hl hm hp
theorem listJ_perm {d : DkD} {l m : List (SegP × Bool)} (hf : listFiles d.fs = some l) (hp : m.Perm l) (hm : m.Pairwise fun x y => x.1.k ≤ y.1.k) : listJ d = if listOk m = true then some m else none := by
 have hs : (l.mergeSort fun x y => decide (x.1.k ≤ y.1.k)).Pairwise fun x y => x.1.k ≤ y.1.k := by
  have := List.pairwise_mergeSort (le := fun x y : SegP × Bool => decide (x.1.k ≤ y.1.k)) (fun a b c h1 h2 => by simp at *; omega) (fun a b => by simp; omega) l
  exact this.imp fun h => of_decide_eq_true h
 have hq : m.Perm (l.mergeSort fun x y => decide (x.1.k ≤ y.1.k)) := hp.trans (List.mergeSort_perm l _).symm
 unfold listJ
 simp only [hf]
 by_cases h1 : listOk m = true
 ·have e := sorted_one hq.symm hs hm h1
  rw [e, if_pos h1]
 ·rw [if_neg h1, if_neg fun h2 => h1 ?_]
  have e := sorted_one hq hm hs h2
  rw [e]
  exact h2
end Go.Proofs.YtgeofijddhflaaaGreatDoor
set_option linter.unusedVariables false
namespace Go.Proofs.YtgeofijddhflaaaGreatDoor
open Oct
def runStep (acc : List SegP) (s : SegP) : List SegP := match acc.getLast? with | none => [s] | some t => if s.goesOn t = true then acc ++ [s] else [s]
theorem lastRun_snoc : ∀ (l : List SegP) (acc : List SegP) (s : SegP), lastRun acc (l ++ [s]) = runStep (lastRun acc l) s
 | [], acc, s => rfl
 | x :: r, acc, s => by
  show lastRun (runStep acc x) (r ++ [s]) = runStep (lastRun (runStep acc x) r) s
  exact lastRun_snoc r _ s
theorem takeT_txt (l : List UInt8) : (takeT l).1.length ≤ 65535 ∨ (takeT l).2.2 ≠ 0 := by
 by_cases h : (takeT l).2.2 = 0
 ·exact .inl (takeT_form h).2.2
 ·exact .inr h
theorem takeEn_txt {p : List UInt8} {a : Int} {q : EntP} (h : takeEn p a = some q) : q.b.length ≤ 65535 := by
 unfold takeEn at h
 split at h
 ·rename_i t k r h1
  split at h
  ·cases h
  ·rename_i h2
   injection h with h
   subst h
   rcases takeT_txt r with h3 | h3
   ·exact h3
   ·exact absurd (.inl h3) h2
 ·cases h
theorem readRows_txt : ∀ (rows : List (List UInt8)) (a : Int) (s s' : SegP), readRows rows a s = some s' → (∀ e ∈ s.l, e.b.length ≤ 65535) → (∀ e ∈ s'.l, e.b.length ≤ 65535) ∧ s'.l.length = s.l.length + rows.length
 | [], a, s, s', h, hs => by
  injection h with h
  subst h
  exact ⟨hs, rfl⟩
 | p :: r, a, s, s', h, hs => by
  unfold readRows at h
  split at h
  ·cases h
  ·rename_i e he
   have h1 := takeEn_txt he
   have := readRows_txt r _ _ _ h (fun x hx => by
    rcases List.mem_append.1 hx with hx | hx
    ·exact hs x hx
    ·obtain rfl := List.mem_singleton.1 hx
     exact h1)
   refine ⟨this.1, ?_⟩
   have h2 := this.2
   simp at h2
   rw [h2, List.length_cons]
   omega
theorem readSeg_txt {k : Int} {b : List UInt8} {s : SegP} {t : Bool} (h : readSeg k b = some (s, t)) : (∀ e ∈ s.l, e.b.length ≤ 65535) ∧ s.l.length ≤ b.length := by
 have hr := rowsS_all b
 unfold readSeg at h
 split at h
 ·injection h with h
  injection h with h _
  subst h
  exact ⟨by simp, by simp⟩
 ·rename_i p r hpr
  split at h
  ·cases h
  ·rename_i f t' hd
   rw [hpr, List.length_cons] at hr
   obtain ⟨s', hs', e⟩ := Option.map_eq_some_iff.1 h
   injection e with e _
   subst e
   have := readRows_txt r _ _ _ hs' (by simp)
   exact ⟨this.1, by have h1 := this.2; simp at h1; omega⟩
theorem listFiles_txt : ∀ {l : List (Nm × FD)} {x : List (SegP × Bool)}, listFiles l = some x → ∀ y ∈ x, (∀ e ∈ y.1.l, e.b.length ≤ 65535) ∧ ∃ q ∈ l, y.1.l.length ≤ q.2.b.length
 | [], x, h => by
  injection h with h
  subst h
  simp
 | q :: r, x, h => by
  unfold listFiles at h
  split at h
  ·intro y hy
   obtain ⟨h1, q', h2, h3⟩ := listFiles_txt h y hy
   exact ⟨h1, q', List.mem_cons_of_mem _ h2, h3⟩
  ·split at h
   ·cases h
   ·rename_i s hs
    obtain ⟨x', hx', rfl⟩ := Option.map_eq_some_iff.1 h
    intro y hy
    rcases List.mem_cons.1 hy with rfl | hy
    ·have := readSeg_txt (s := y.1) (t := y.2) hs
     exact ⟨this.1, q, List.mem_cons_self, this.2⟩
    ·obtain ⟨h1, q', h2, h3⟩ := listFiles_txt hx' y hy
     exact ⟨h1, q', List.mem_cons_of_mem _ h2, h3⟩
theorem listJ_ok {d : DkD} {l : List (SegP × Bool)} (h : listJ d = some l) (hb : ∀ q ∈ d.fs, q.2.b.length ≤ 1000000000) : l.length ≤ d.fs.length ∧ (∀ y ∈ l, SegB y.1 ∧ (1 ≤ y.1.k ∧ y.1.k ≤ 999999999) ∧ (y.1.ends = [] ∧ y.1.l = [] ∨ SegOk y.1 ∧ 1 ≤ y.1.first) ∧ (∀ e ∈ y.1.l, e.b.length ≤ 65535) ∧ y.1.l.length ≤ 1000000000) ∧ listOk l = true := by
 unfold listJ at h
 split at h
 ·cases h
 ·rename_i l0 hl0
  split at h
  ·rename_i hok
   injection h with h
   subst h
   have h1 := listFiles_ok hl0 hb
   have h2 := listFiles_txt hl0
   refine ⟨by rw [List.length_mergeSort]; exact h1.1, fun y hy => ?_, hok⟩
   have hy0 : y ∈ l0 := (List.mergeSort_perm l0 _).mem_iff.1 hy
   obtain ⟨h3, q, hq, h4⟩ := h2 y hy0
   have h5 := hb q hq
   exact ⟨(h1.2 y hy0).1, (h1.2 y hy0).2.1, (h1.2 y hy0).2.2, h3, by omega⟩
  ·cases h
theorem cut_off {pw : PWD} (h : pw.cut.1 = false) (ho : pw.off = false) : pw.cut.2.2.off = false := by
 unfold PWD.cut at h ⊢
 split
 ·exact ho
 ·rename_i h1
  split
  ·exact ho
  ·rename_i h2
   rw [if_neg h1, if_neg h2] at h
   cases h
theorem remove_off {d : DkD} {n : Nm} (h : (d.remove n).1 = 0) : (d.remove n).2.pw.off = false := by
 unfold DkD.remove at h ⊢
 split
 ·rename_i h1
  rw [if_pos h1] at h
  cases h
 ·rename_i h1
  rw [if_neg h1] at h
  split
  ·rename_i h2
   rw [h2] at h
   cases h
  ·rename_i f h2
   rw [h2] at h
   simp only [DkD.whole] at h ⊢
   refine cut_off ?_ (by simpa using h1)
   by_cases hc : d.pw.cut.1 = true
   ·rw [if_pos hc] at h
    cases h
   ·simpa using hc
end Go.Proofs.YtgeofijddhflaaaGreatDoor
set_option linter.unusedVariables false
set_option linter.unusedSimpArgs false
namespace Go.Proofs.YtgeofijddhflaaaGreatDoor
open Go.RowKit Oct
structure FndR where
 s : SegP
 tn : Bool
 al : Option Addr
 cl : Nat
 ae : Option Addr
 ce : Nat
 rs : List EntR
def FndR.vl (q : FndR) : Value := .slice q.al q.rs.length q.cl
def FndR.ve (q : FndR) : Value := .slice q.ae q.s.ends.length q.ce
def FndR.o (q : FndR) : SegP × Bool := (q.s, q.tn)
instance : Inhabited FndR := ⟨⟨⟨0, 0, 0, [], []⟩, false, none, 0, none, 0, []⟩⟩
def fOne (q : FndR) : List Value := [.int .i64 q.s.k, .int .i64 q.s.first, .int .i64 q.s.term, q.vl, q.ve, .bool q.tn]
def fCells (l : List FndR) : List Value := l.flatMap fOne
theorem fCells_len (l : List FndR) : (fCells l).length = l.length * 6 := by
 induction l with
 | nil => rfl
 | cons x r ih => unfold fCells at ih ⊢; rw [List.flatMap_cons, List.length_append, ih, List.length_cons]; simp [fOne]; omega
theorem fCells_append (a b : List FndR) : fCells (a ++ b) = fCells a ++ fCells b := by unfold fCells; rw [List.flatMap_append]
theorem fCells_at (l : List FndR) {k : Nat} (hk : k < l.length) {j : Nat} (hj : j < 6) : (fCells l)[k * 6 + j]? = (fOne l[k])[j]? := by
 induction l generalizing k with
 | nil => simp at hk
 | cons x r ih =>
  unfold fCells at ih ⊢
  rw [List.flatMap_cons]
  cases k with
  | zero => rw [List.getElem?_append_left (by simp [fOne]; omega)]; simp
  | succ k =>
   rw [List.getElem?_append_right (by simp [fOne]; omega)]
   have : (k + 1) * 6 + j - (fOne x).length = k * 6 + j := by simp [fOne]; omega
   rw [this, ih (by simpa using hk)]
   rfl
theorem info_found : (Tryz.prog.info? 106).map (fun i => (i.zero, i.size, i.bytes)) = some (some (.agg #[.int .i64 0, .int .i64 0, .int .i64 0, .slice none 0 0, .slice none 0 0, .bool false]), 6, 80) := by kernel_rfl
theorem wpList_append_size {P : Program} {w : World} {ops : Array Oper} {rest : List Oper} {o : Oper} {a : Act} {Q : Exit → Act → World → Prop} (hgd : o.guard = none) (s x : Operand) (t : TypeId)
  (ho : o.op = .call { callee := .builtin .append, args := #[s, x], argTypes := #[t, t] })
  (base : Nat) (e : TypeId) (z : Value) (size bytes : Nat) (ht : P.underlying t = some (.slice e)) (hinfo : (P.info? e).map (fun i => (i.zero, i.size, i.bytes)) = some (some z, size, bytes)) (hzs : z.cells.size = size) (hsz : 0 < size)
  (v : Value) (n : Nat) (xs : List Value) (hs : a.eval s = v) (hown : w.ownsRow base e size v n xs)
  (ad : Addr) (m c : Nat) (news : List Value) (hx : a.eval x = .slice (some ad) m c) (hl : news.length = m * size) (hnews : ∀ j u, news[j]? = some u → w.cell? (ad.add j) = some u) (h1 : ∀ u ∈ news, u.oneCell' = true)
  (h63 : n + m ≤ maxLen) (hbytes : (n + m) * bytes ≤ 140737488355328) (hbase : base ≤ w.heap.size)
  (h : ∀ v' w', w'.ownsRow base e size v' (n + m) (xs ++ news) → w.grownBy w' v.ownBlock → Fresh v' v.ownBlock w.heap.size → wpList P ops Q rest (a.put o.dst v') w') : wpList P ops Q (o :: rest) a w :=
 wpList_plain hgd fun _ hK => wp_append_size s x t ho base e z size bytes ht hinfo hzs hsz v n xs hs hown ad m c news hx hl hnews h1 h63 hbytes hbase fun v' w' h2 h3 h4 => hK _ _ (h v' w' h2 h3 h4)
theorem frow_mono {w : World} {base base' : Nat} {e : TypeId} {size n : Nat} {v : Value} {xs : List Value} (h : w.ownsRow base e size v n xs) (hb : base' ≤ base) : w.ownsRow base' e size v n xs := by
 refine ⟨h.1, ?_⟩
 rcases h.2 with h0 | ⟨g, cap, cur, h1, h2, r⟩
 ·exact .inl h0
 ·exact .inr ⟨g, cap, cur, h1, by omega, r⟩
theorem frow_below {w w' : World} {base : Nat} {e : TypeId} {size n : Nat} {v : Value} {xs : List Value} (h : w.ownsRow base e size v n xs) (hb : Below w.heap.size w w') : w'.ownsRow base e size v n xs := World.ownsRow.kept h (grown_of_below hb none) (by cases v.ownBlock <;> simp)
structure FndOk (w : World) (B : Nat) (q : FndR) : Prop where
 ents : w.ownsRow B 65 4 q.vl q.rs.length (erCells q.rs)
 map : q.rs.map EntR.e = q.s.l
 dat : ∀ x ∈ q.rs, DatG w B x.v x.e.b
 ends : Own w B 3 q.ve (q.s.ends.map (Value.int .i64))
section
variable {w w' : World} {B : Nat} {q : FndR}
theorem FndOk.below (h : FndOk w B q) (hb : Below w.heap.size w w') : FndOk w' B q :=
 ⟨World.ownsRow.kept h.ents (grown_of_below hb none) (by cases q.vl.ownBlock <;> simp), h.map, fun x hx => (h.dat x hx).keep fun k hk => hb.block k ((h.dat x hx).lt k hk).2, Own.below h.ends hb (Nat.le_refl _)⟩
theorem FndOk.mono (h : FndOk w B q) {B' : Nat} (hb : B' ≤ B) : FndOk w B' q := ⟨frow_mono h.ents hb, h.map, fun x hx => (h.dat x hx).mono hb, Own.mono h.ends hb⟩
theorem FndOk.grown (h : FndOk w B q) {base n : Nat} {v : Value} {xs : List Value} (hown : w.ownsRow base 106 6 v n xs) (hg : w.grownBy w' v.ownBlock) : FndOk w' B q :=
 ⟨World.ownsRow.kept h.ents hg (jrow_type_ne h.ents hown (by decide)), h.map, fun x hx => (h.dat x hx).keep fun k hk => hg.block k ((h.dat x hx).lt k hk).2 (fun e => by
  obtain ⟨g, cs, fz, e1, hc⟩ := (h.dat x hx).held
  rw [hk] at e1
  injection e1 with e1
  subst e1
  obtain ⟨cs', hc'⟩ := ownsRow_held hown e.symm
  rw [hc] at hc'
  injection hc' with hc'
  injection hc' with _ h _
  exact absurd h (by decide)), Own.kept h.ends hg (jrow_type_ne h.ends hown (by decide))⟩
theorem FndOk.of_sg {G : Nat} {s : SegP} {rs : List EntR} {Al Ae : Option Addr} {cl ce : Nat} {tn : Bool} {tv : Value} (h : SgAt w G s rs (.slice Al rs.length cl) (.slice Ae s.ends.length ce) tv) : FndOk w (G + 1) ⟨s, tn, Al, cl, Ae, ce, rs⟩ := ⟨h.ents, h.map, h.dat, h.ends⟩
end
theorem listOk_iff (l : List (SegP × Bool)) : listOk l = true ↔ ∀ j (h : j + 1 < l.length), l[j].1.k = l[j + 1].1.k - 1 ∧ l[j].2 = false ∧ l[j].1.ends ≠ [] := by
 induction l with
 | nil => simp [listOk]
 | cons a r ih =>
  cases r with
  | nil => simp [listOk]
  | cons b r =>
   unfold listOk
   simp only [Bool.and_eq_true, decide_eq_true_eq, ih]
   constructor
   ·rintro ⟨⟨⟨h1, h2⟩, h3⟩, h4⟩ j hj
    cases j with
    | zero => exact ⟨h1, by simpa using h2, by simpa using h3⟩
    | succ j => exact h4 j (by simpa using hj)
   ·intro h
    have h0 := h 0 (by simp)
    exact ⟨⟨⟨h0.1, by simpa using h0.2.1⟩, by simpa using h0.2.2⟩, fun j hj => h (j + 1) (by simpa using hj)⟩
def lstOk (l : List FndR) (j : Nat) (h : j < l.length) : Prop := (∀ h0 : 0 < j, (l[j - 1]'(by omega)).s.k = l[j].s.k - 1) ∧ (j + 1 < l.length → l[j].tn = false ∧ l[j].s.ends ≠ [])
theorem lstOk_all (l : List FndR) : listOk (l.map FndR.o) = true ↔ ∀ j h, lstOk l j h := by
 rw [listOk_iff]
 constructor
 ·intro h j hj
  refine ⟨fun h0 => ?_, fun h1 => ?_⟩
  ·have := h (j - 1) (by rw [List.length_map]; omega)
   simp only [List.getElem_map] at this
   have e : j - 1 + 1 = j := by omega
   simp only [e] at this
   exact this.1
  ·have := h j (by rw [List.length_map]; exact h1)
   simp only [List.getElem_map] at this
   exact ⟨this.2.1, this.2.2⟩
 ·intro h j hj
  rw [List.length_map] at hj
  simp only [List.getElem_map]
  have h1 := (h (j + 1) (by omega)).1 (by omega)
  have h2 := (h j (by omega)).2 (by omega)
  exact ⟨h1, h2.1, h2.2⟩
end Go.Proofs.YtgeofijddhflaaaGreatDoor
set_option linter.unusedVariables false
set_option linter.unusedSimpArgs false
namespace Go.Proofs.YtgeofijddhflaaaGreatDoor
open Go.RowKit Oct
structure SegM (w : World) (F : Nat → Prop) (ad : Addr) (s : SegP) : Prop where
 rd : SegRd w F ad s
 ends : s.ends.length = s.l.length + 1
 len : s.l.length ≤ 1099511627776
 txt : ∀ e ∈ s.l, e.b.length ≤ 65535
section
variable {w w' : World} {F F' : Nat → Prop} {ad : Addr} {s t : SegP}
theorem SegM.keep (h : SegM w F ad s) (hs : w.heap.size ≤ w'.heap.size) (hk : ∀ k, F k → w'.heap[k]? = w.heap[k]?) : SegM w' F ad s := ⟨h.rd.keep hs hk, h.ends, h.len, h.txt⟩
theorem SegM.mono (h : SegM w F ad s) (hF : ∀ k, F k → F' k) : SegM w F' ad s := ⟨h.rd.mono hF, h.ends, h.len, h.txt⟩
theorem SegRd.cells (h : SegRd w F ad s) : ∃ b o Al cl rs Ae ce, ad = ⟨b, o, none⟩ ∧ F b ∧ b < w.heap.size ∧ w.cell? ⟨b, o, none⟩ = some (.int .i64 s.k) ∧ w.cell? ⟨b, o + 1, none⟩ = some (.int .i64 s.first) ∧ w.cell? ⟨b, o + 2, none⟩ = some (.int .i64 s.term) ∧ w.cell? ⟨b, o + 3, none⟩ = some (.slice Al s.l.length cl) ∧ w.cell? ⟨b, o + 4, none⟩ = some (.slice Ae s.ends.length ce) ∧
  (s.l.length ≤ cl ∧ cl ≤ maxLen ∧ s.ends.length ≤ ce ∧ ce ≤ maxLen) ∧ RdF w F Al (erCells rs) ∧ rs.map EntR.e = s.l ∧ (∀ q ∈ rs, DatF w F q.v q.e.b) ∧ RdF w F Ae (s.ends.map (Value.int .i64)) := by
 obtain ⟨⟨Al, cl, rs, Ae, ce, h1, h2, h3, h4, h5, h6, h7, h8, h9⟩, hn⟩ := h
 obtain ⟨b, o, e, hF, hlt, hc⟩ := h1 (by simp)
 injection e with e
 subst e
 exact ⟨b, o, Al, cl, rs, Ae, ce, rfl, hF, hlt, hc 0 _ rfl, hc 1 _ rfl, hc 2 _ rfl, hc 3 _ rfl, hc 4 _ rfl, ⟨h2, h3, h4, h5⟩, h6, h7, h8, h9⟩
theorem SegRd.last (h : SegRd w F ad s) (hl : s.l.length ≤ 4611686018427387904) :
  Calls Tryz.prog 62 #[.pointer (some ad)] w fun e w' => e = .returned (.tuple #[.int .i64 s.last.1, .int .i64 s.last.2]) ∧ Below w.heap.size w w' := by
 obtain ⟨b, o, Al, cl, rs, Ae, ce, rfl, hF, hlt, c0, c1, c2, c3, c4, _, h6, h7, h8, h9⟩ := h.cells
 have hrl : rs.length = s.l.length := by rw [← h7, List.length_map]
 have hfi := h.num.first
 rw [← hrl] at c3 hl
 rcases List.eq_nil_or_concat rs with rfl | ⟨r, q, rfl⟩
 ·have hl2 : s.last = (s.first - 1, s.term) := by
   unfold SegP.last
   rw [← h7]
   rfl
  rw [hl2]
  exact jlast_none b o s.first s.term Al cl ⟨hfi.1, by omega⟩ w c1 c2 c3
 ·rw [List.concat_eq_append] at h6 h7 h8
  simp only [List.concat_eq_append, List.length_append] at c3 hl
  have hl2 : s.last = (q.e.ix, q.e.tm) := by
   unfold SegP.last
   rw [← h7]
   simp
  rw [hl2]
  obtain ⟨eb, eo, rfl, _, hg2, hc⟩ := h6 (by rw [erCells_len]; simp)
  obtain ⟨Av, cd, hv, _⟩ := h8 q (by simp)
  have hget : ∀ j, j < 4 → (erCells (r ++ [q]))[r.length * 4 + j]? = (erOne q)[j]? := fun j hj => by
   rw [erCells_at _ (k := r.length) (by simp) hj]
   simp
  have e0 := hc (r.length * 4 + 0) _ (hget 0 (by omega))
  have e1 := hc (r.length * 4 + 1) _ (hget 1 (by omega))
  have e2 := hc (r.length * 4 + 2) _ (hget 2 (by omega))
  have e3 := hc (r.length * 4 + 3) _ (hget 3 (by omega))
  exact jlast_some b o r.length eb eo cl q.e.ix q.e.tm q.e.kd Av q.e.b.length cd (by simp at hl; omega) w c3 (by simpa [Nat.add_assoc] using e0) (by simpa [Nat.add_assoc] using e1) (by simpa [Nat.add_assoc] using e2) (by simpa [hv, Nat.add_assoc] using e3) hlt hg2
theorem SegM.long (h : SegM w F ad s) : Calls Tryz.prog 56 #[.pointer (some ad)] w fun e w' => e = .returned (.int .i64 s.long) ∧ Below w.heap.size w w' := by
 obtain ⟨b, o, Al, cl, rs, Ae, ce, rfl, hF, hlt, c0, c1, c2, c3, c4, _, h6, h7, h8, h9⟩ := h.rd.cells
 have he := h.ends
 have hl := h.len
 rcases List.eq_nil_or_concat s.ends with h0 | ⟨r, x, hr⟩
 ·rw [h0] at he
  simp at he
 ·rw [List.concat_eq_append] at hr
  have hlong : s.long = x := by unfold SegP.long; rw [hr]; simp
  rw [hr] at h9 c4 he
  rw [hlong]
  obtain ⟨eb, eo, rfl, _, hg2, hc⟩ := h9 (by simp)
  have e0 := hc r.length (.int .i64 x) (by simp)
  rw [List.length_append] at c4 he
  simp at he
  exact jlong_any b o r.length eb eo ce x (by omega) w c4 e0
theorem SegM.nameJ (h : SegM w F ad s) (ht : Tab w) : Calls Tryz.prog 52 #[.pointer (some ad)] w fun e w' => e = .returned (.string (str (jName s.k))) ∧ Below w.heap.size w w' := by
 obtain ⟨b, o, Al, cl, rs, Ae, ce, rfl, hF, hlt, c0, _⟩ := h.rd.cells
 exact jname_any b o s.k h.rd.num.k w c0 ht
set_option maxHeartbeats 1000000 in
theorem SegRd.goes {ad' : Addr} (h : SegRd w F ad s) (h' : SegRd w F' ad' t) (hl : t.l.length ≤ 4611686018427387904) (h1 : 1 ≤ s.first) :
  Calls Tryz.prog 53 #[.pointer (some ad), .pointer (some ad')] w fun e w' => e = .returned (.bool (s.goesOn t)) ∧ Below w.heap.size w w' := by
 obtain ⟨b, o, Al, cl, rs, Ae, ce, rfl, hF, hlt, c0, c1, c2, _⟩ := h.cells
 have HLA := Lib.hid (h'.last hl)
 obtain ⟨fi, hfi⟩ : ∃ x, x = s.first := ⟨_, rfl⟩
 obtain ⟨tm, htm⟩ : ∃ x, x = s.term := ⟨_, rfl⟩
 obtain ⟨li, hli⟩ : ∃ x, x = t.last.1 := ⟨_, rfl⟩
 obtain ⟨lt, hltt⟩ : ∃ x, x = t.last.2 := ⟨_, rfl⟩
 have hfb : 1 ≤ fi ∧ fi ≤ 9223372036854775806 := by have := h.num.first; omega
 have hgo : s.goesOn t = (decide (fi - 1 = li) && decide (tm = lt)) := by unfold SegP.goesOn; rw [hfi, htm, hli, hltt]
 rw [hgo]
 rw [← hfi] at c1
 rw [← htm] at c2
 rw [← hli, ← hltt] at HLA
 have HC1 := Lib.hid c1
 have HC2 := Lib.hid c2
 clear hfi htm hli hltt hgo h h' h1 c0 c1 c2
 have hw : IntKind.i64.wrap (fi - 1) = fi - 1 := IntWalk.i64_in _ (by omega)
 go_enter Tryz.func53, Tryz.ntmps53
 go_wp2_with fail
 refine HLA.out.mono ?_
 rintro e w2 ⟨rfl, hb2⟩
 have d1 : w2.cell? ⟨b, o + 1, none⟩ = some (.int .i64 fi) := (hb2.cell (p := ⟨b, o + 1, none⟩) hlt).trans HC1.out
 have d2 : w2.cell? ⟨b, o + 2, none⟩ = some (.int .i64 tm) := (hb2.cell (p := ⟨b, o + 2, none⟩) hlt).trans HC2.out
 have HB := Lib.hid hb2
 clear hb2 HLA
 by_cases h1 : fi - 1 = li
 ·have h2 : (fi - 1 == li) = true := by simpa using h1
  have h3 : decide (fi - 1 = li) = true := decide_eq_true h1
  have H3 := Lib.hid h3
  clear h1 h3
  go_wp2_with fail
  go_ret
  refine ⟨?_, HB.out⟩
  rw [H3.out, Bool.true_and]
  rfl
 ·have h2 : (fi - 1 == li) = false := by simpa using h1
  have h3 : decide (fi - 1 = li) = false := decide_eq_false h1
  have H3 := Lib.hid h3
  clear h1 h3
  go_wp2_with fail
  go_ret
  refine ⟨?_, HB.out⟩
  rw [H3.out]
  rfl
end
end Go.Proofs.YtgeofijddhflaaaGreatDoor
set_option linter.unusedVariables false
set_option linter.unusedSimpArgs false
namespace Go.Proofs.YtgeofijddhflaaaGreatDoor
open Go.RowKit Oct
structure JAt (w : World) (F : Nat → Prop) (gj g : Nat) (j : JnP) : Prop where
 at_ : ∃ A c ads, Blk w gj 53 #[.int .i64 j.term, .int .i64 j.vote, .slice A j.segs.length c, .pointer (some ⟨g, 0, none⟩), .int .i64 j.bad] ∧ (j.segs.length ≤ c ∧ c ≤ maxLen) ∧ RdF w F A ((ads : List Addr).map fun a => .pointer (some a)) ∧ ads.length = j.segs.length ∧ ∀ i (h : i < ads.length) (h' : i < j.segs.length), SegM w F ads[i] j.segs[i]
 len : j.segs.length ≤ 1099511627776
 num : (-9223372036854775808 ≤ j.term ∧ j.term ≤ 9223372036854775807) ∧ (-9223372036854775808 ≤ j.vote ∧ j.vote ≤ 9223372036854775807)
section
variable {w w' : World} {F F' : Nat → Prop} {gj g : Nat} {j : JnP}
theorem JAt.keep (h : JAt w F gj g j) (hs : w.heap.size ≤ w'.heap.size) (hk : ∀ k, F k → w'.heap[k]? = w.heap[k]?) (hg : w'.heap[gj]? = w.heap[gj]?) : JAt w' F gj g j := by
 obtain ⟨⟨A, c, ads, h1, h2, h3, h4, h5⟩, h6, h7⟩ := h
 exact ⟨⟨A, c, ads, hg.trans h1, h2, h3.keep hs hk, h4, fun i h h' => (h5 i h h').keep hs hk⟩, h6, h7⟩
theorem JAt.mono (h : JAt w F gj g j) (hF : ∀ k, F k → F' k) : JAt w F' gj g j := by
 obtain ⟨⟨A, c, ads, h1, h2, h3, h4, h5⟩, h6, h7⟩ := h
 exact ⟨⟨A, c, ads, h1, h2, h3.mono hF, h4, fun i h h' => (h5 i h h').mono hF⟩, h6, h7⟩
theorem JAt.lt (h : JAt w F gj g j) : gj < w.heap.size := by
 obtain ⟨⟨A, c, ads, h1, _⟩, _⟩ := h
 exact h1.lt
theorem JAt.below (h : JAt w F gj g j) (hF : ∀ k, F k → k < w.heap.size) (hb : Below w.heap.size w w') : JAt w' F gj g j := h.keep hb.size (fun k hk => hb.block k (hF k hk)) (hb.block gj h.lt)
set_option maxHeartbeats 1000000 in
theorem JAt.meta_ (h : JAt w F gj g j) : Calls Tryz.prog 19 #[.pointer (some ⟨gj, 0, none⟩)] w fun e w' => e = .returned (.tuple #[.int .i64 j.term, .int .i64 j.vote]) ∧ Below w.heap.size w w' := by
 obtain ⟨⟨A, c, ads, h1, _⟩, _⟩ := h
 have c0 : w.cell? ⟨gj, 0, none⟩ = some (.int .i64 j.term) := h1.cell 0
 have c1 : w.cell? ⟨gj, 1, none⟩ = some (.int .i64 j.vote) := h1.cell 1
 clear h1
 go_enter Tryz.func19, Tryz.ntmps19
 go_wp2_with fail
 go_quiet (fail)
 go_wp2_with fail
 go_ret2
 exact ⟨rfl, below_drewN (Below.refl _ w) _⟩
set_option maxHeartbeats 1000000 in
theorem JAt.base (h : JAt w F gj g j) : Calls Tryz.prog 20 #[.pointer (some ⟨gj, 0, none⟩)] w fun e w' => e = .returned (.tuple #[.int .i64 j.base.1, .int .i64 j.base.2]) ∧ Below w.heap.size w w' := by
 obtain ⟨⟨A, c, ads, h1, h2, h3, h4, h5⟩, h6, _⟩ := h
 have c2 : w.cell? ⟨gj, 2, none⟩ = some (.slice A j.segs.length c) := h1.cell 2
 clear h1
 unfold JnP.base
 rcases hs : j.segs with _ | ⟨s, r⟩
 ·rw [hs] at c2
  clear h2 h3 h4 h5 h6 hs
  simp only [List.length_nil] at c2
  go_enter Tryz.func20, Tryz.ntmps20
  go_wp2_with fail
  go_ret2
  exact ⟨rfl, Below.refl _ w⟩
 ·have hs0 : 0 < j.segs.length := by rw [hs]; simp
  have ha0 : 0 < ads.length := by omega
  obtain ⟨ab, ao, rfl, _, hal, hac⟩ := h3 (by rw [List.length_map]; exact ha0)
  have hM := h5 0 ha0 hs0
  simp only [hs, List.getElem_cons_zero] at hM
  obtain ⟨b, o, Al, cl, rs, Ae, ce, hab, hF, hlt, d0, d1, d2, _⟩ := hM.rd.cells
  have e0 : w.cell? ⟨ab, ao, none⟩ = some (.pointer (some ⟨b, o, none⟩)) := hac 0 _ (by rw [List.getElem?_map, List.getElem?_eq_getElem ha0, hab]; rfl)
  obtain ⟨nl, hnl⟩ : ∃ n, n = j.segs.length := ⟨_, rfl⟩
  rw [← hnl] at c2 hs0
  have hn0 : ((nl : Int) == 0) = false := by simp; omega
  have hfi := hM.rd.num.first
  obtain ⟨fi, hfie⟩ : ∃ x, x = s.first := ⟨_, rfl⟩
  obtain ⟨tm, htme⟩ : ∃ x, x = s.term := ⟨_, rfl⟩
  rw [← hfie] at d1 hfi
  rw [← htme] at d2
  simp only
  rw [← hfie, ← htme]
  clear h2 h3 h4 h5 h6 hs hM hac hab ha0 hnl d0 hfie htme
  have hw : IntKind.i64.wrap (fi - 1) = fi - 1 := IntWalk.i64_in _ (by omega)
  go_enter Tryz.func20, Tryz.ntmps20
  go_wp2_with fail
  go_quiet (fail)
  go_wp2_with fail
  go_ret2
  exact ⟨rfl, below_drewN (Below.refl _ w) _⟩
set_option maxHeartbeats 1000000 in
theorem JAt.last (h : JAt w F gj g j) : Calls Tryz.prog 40 #[.pointer (some ⟨gj, 0, none⟩)] w fun e w' => e = .returned (.tuple #[.int .i64 j.last.1, .int .i64 j.last.2]) ∧ Below w.heap.size w w' := by
 obtain ⟨⟨A, c, ads, h1, h2, h3, h4, h5⟩, h6, _⟩ := h
 have c2 : w.cell? ⟨gj, 2, none⟩ = some (.slice A j.segs.length c) := h1.cell 2
 clear h1
 rcases List.eq_nil_or_concat j.segs with hs | ⟨r, s, hs⟩
 ·have hlst : j.last = (0, 0) := by unfold JnP.last; rw [hs]; rfl
  rw [hlst]
  rw [hs] at c2
  clear hlst h2 h3 h4 h5 h6 hs
  simp only [List.length_nil] at c2
  go_enter Tryz.func40, Tryz.ntmps40
  go_wp2_with fail
  go_ret2
  exact ⟨rfl, Below.refl _ w⟩
 ·rw [List.concat_eq_append] at hs
  have hl : j.segs.length = r.length + 1 := by rw [hs]; simp
  have ha0 : r.length < ads.length := by omega
  have hj0 : r.length < j.segs.length := by omega
  obtain ⟨ab, ao, rfl, _, hal, hac⟩ := h3 (by rw [List.length_map]; omega)
  have hM := h5 r.length ha0 hj0
  have hgs : j.segs[r.length] = s := by simp [hs]
  rw [hgs] at hM
  obtain ⟨b, o, Al, cl, rs, Ae, ce, hab, hF, hlt, d0, d1, d2, _⟩ := hM.rd.cells
  have e0 : w.cell? ⟨ab, ao + r.length, none⟩ = some (.pointer (some ⟨b, o, none⟩)) := hac r.length _ (by rw [List.getElem?_map, List.getElem?_eq_getElem ha0, hab]; rfl)
  have HLA := Lib.hid (fun n => (hM.keep (w' := w.drewN n) (Nat.le_refl _) (fun _ _ => rfl)).rd.last (by have := hM.len; omega))
  rw [hab] at HLA
  have hlst : j.last = s.last := by unfold JnP.last; rw [hs]; simp
  rw [hlst]
  rw [hl] at c2
  obtain ⟨n, hn⟩ : ∃ n, n = r.length := ⟨_, rfl⟩
  rw [← hn] at c2 e0
  have hnb : n ≤ 1099511627776 := by omega
  have hn0 : (((n + 1 : Nat) : Int) == 0) = false := by simp; omega
  have hw : IntKind.i64.wrap (((n + 1 : Nat) : Int) - 1) = (n : Int) := by rw [IntWalk.i64_in _ (by omega)]; omega
  have hw2 : ((n + 1 : Nat) : Int) - 1 = (n : Int) := by omega
  have hbA : b < w.heap.size := hlt
  have hw3 : IntKind.i64.wrap (n : Int) = (n : Int) := IntWalk.i64_in _ (by omega)
  have hw4 : 0 ≤ (n : Int) ∧ (n : Int) < (n : Int) + 1 := by omega
  clear h2 h3 h4 h5 h6 hs hM hac hab ha0 d0 d1 d2 hl hj0 hgs hlst hn hlt
  go_enter Tryz.func40, Tryz.ntmps40
  go_wp2_with fail
  refine wp_region_held_drew (S := fun W => W.cell? ⟨gj, 2, none⟩ = some (.slice (some ⟨ab, ao, none⟩) (n + 1) c) ∧ W.cell? ⟨ab, ao + n, none⟩ = some (.pointer (some ⟨b, o, none⟩)) ∧ True ∧ True) (by kernel_rfl) ⟨c2, e0, trivial, trivial⟩ (fun hHeld => ?_)
  refine held_take 0 (v := ?_) (by simp) (by kernel_rfl) (by kernel_rfl) (by kernel_rfl) (fun _ _ _ h => h) (Or.inl ⟨by rfl, ?_⟩) hHeld ?_
  case refine_2 => (intro w hSw; (try dsimp only at hSw); (try (obtain ⟨s0, s1, s2, s3⟩ := hSw)); simp only [List.getElem_cons_zero]; go_simp <;> with_reducible rfl)
  simp only [List.getElem_cons_zero, Act.put, List.setIfInBounds_toArray, List.set_cons_zero, List.set_cons_succ]
  refine held_take 1 (v := ?_) (by simp) (by kernel_rfl) (by kernel_rfl) (by kernel_rfl) (fun _ _ _ h => h) (Or.inl ⟨by rfl, ?_⟩) hHeld ?_
  case refine_2 => (intro w hSw; (try dsimp only at hSw); (try (obtain ⟨s0, s1, s2, s3⟩ := hSw)); simp only [List.getElem_cons_zero, List.getElem_cons_succ]; go_simp <;> with_reducible rfl)
  simp only [List.getElem_cons_zero, List.getElem_cons_succ, Act.put, List.setIfInBounds_toArray, List.set_cons_zero, List.set_cons_succ]
  refine held_take 2 (v := ?_) (by simp) (by kernel_rfl) (by kernel_rfl) (by kernel_rfl) (fun _ _ _ h => h) (Or.inl ⟨by rfl, ?_⟩) hHeld ?_
  case refine_2 => (intro w hSw; (try dsimp only at hSw); (try (obtain ⟨s0, s1, s2, s3⟩ := hSw)); simp only [List.getElem_cons_zero, List.getElem_cons_succ]; go_simp <;> with_reducible rfl)
  simp only [List.getElem_cons_zero, List.getElem_cons_succ, Act.put, List.setIfInBounds_toArray, List.set_cons_zero, List.set_cons_succ]
  refine held_take 3 (v := ?_) (by simp) (by kernel_rfl) (by kernel_rfl) (by kernel_rfl) (fun _ _ _ h => h) (Or.inl ⟨by rfl, ?_⟩) hHeld ?_
  case refine_2 => (intro w hSw; (try dsimp only at hSw); (try (obtain ⟨s0, s1, s2, s3⟩ := hSw)); simp only [List.getElem_cons_zero, List.getElem_cons_succ]; go_simp <;> with_reducible rfl)
  simp only [List.getElem_cons_zero, List.getElem_cons_succ, Act.put, List.setIfInBounds_toArray, List.set_cons_zero, List.set_cons_succ]
  refine held_take 4 (v := ?_) (by simp) (by kernel_rfl) (by kernel_rfl) (by kernel_rfl) (fun _ _ _ h => h) (Or.inl ⟨by rfl, ?_⟩) hHeld ?_
  case refine_2 => (intro w hSw; (try dsimp only at hSw); (try (obtain ⟨s0, s1, s2, s3⟩ := hSw)); simp only [List.getElem_cons_zero, List.getElem_cons_succ]; go_simp <;> with_reducible rfl)
  simp only [List.getElem_cons_zero, List.getElem_cons_succ, Act.put, List.setIfInBounds_toArray, List.set_cons_zero, List.set_cons_succ]
  refine held_take 5 (v := ?_) (by simp) (by kernel_rfl) (by kernel_rfl) (by kernel_rfl) (fun _ _ _ h => h) (Or.inl ⟨by rfl, ?_⟩) hHeld ?_
  case refine_2 => (intro w hSw; (try dsimp only at hSw); (try (obtain ⟨s0, s1, s2, s3⟩ := hSw)); simp only [List.getElem_cons_zero, List.getElem_cons_succ]; go_simp <;> with_reducible rfl)
  simp only [List.getElem_cons_zero, List.getElem_cons_succ, Act.put, List.setIfInBounds_toArray, List.set_cons_zero, List.set_cons_succ]
  refine held_take 6 (v := ?_) (by simp) (by kernel_rfl) (by kernel_rfl) (by kernel_rfl) (fun _ _ _ h => h) (Or.inl ⟨by rfl, ?_⟩) hHeld ?_
  case refine_2 => (intro w hSw; (try dsimp only at hSw); (try (obtain ⟨s0, s1, s2, s3⟩ := hSw)); simp only [List.getElem_cons_zero, List.getElem_cons_succ]; go_simp <;> with_reducible rfl)
  simp only [List.getElem_cons_zero, List.getElem_cons_succ, Act.put, List.setIfInBounds_toArray, List.set_cons_zero, List.set_cons_succ]
  refine held_take 7 (v := ?_) (by simp) (by kernel_rfl) (by kernel_rfl) (by kernel_rfl) (fun _ _ _ h => h) (Or.inl ⟨by rfl, ?_⟩) hHeld ?_
  case refine_2 => (intro w hSw; (try dsimp only at hSw); (try (obtain ⟨s0, s1, s2, s3⟩ := hSw)); simp only [List.getElem_cons_zero, List.getElem_cons_succ]; go_simp <;> with_reducible rfl)
  simp only [List.getElem_cons_zero, List.getElem_cons_succ, Act.put, List.setIfInBounds_toArray, List.set_cons_zero, List.set_cons_succ]
  refine held_take 8 (v := ?_) (by simp) (by kernel_rfl) (by kernel_rfl) (by kernel_rfl) (fun _ _ _ h => h) (Or.inl ⟨by rfl, ?_⟩) hHeld ?_
  case refine_2 => (intro w hSw; (try dsimp only at hSw); (try (obtain ⟨s0, s1, s2, s3⟩ := hSw)); simp only [List.getElem_cons_zero, List.getElem_cons_succ]; go_simp <;> with_reducible rfl)
  simp only [List.getElem_cons_zero, List.getElem_cons_succ, Act.put, List.setIfInBounds_toArray, List.set_cons_zero, List.set_cons_succ]
  refine held_take 9 (v := ?_) (by simp) (by kernel_rfl) (by kernel_rfl) (by kernel_rfl) (fun _ _ _ h => h) (Or.inl ⟨by rfl, ?_⟩) hHeld ?_
  case refine_2 => (intro w hSw; (try dsimp only at hSw); (try (obtain ⟨s0, s1, s2, s3⟩ := hSw)); simp only [List.getElem_cons_zero, List.getElem_cons_succ]; go_simp <;> with_reducible rfl)
  simp only [List.getElem_cons_zero, List.getElem_cons_succ, Act.put, List.setIfInBounds_toArray, List.set_cons_zero, List.set_cons_succ]
  refine held_take 10 (v := ?_) (by simp) (by kernel_rfl) (by kernel_rfl) (by kernel_rfl) (fun _ _ _ h => h) (Or.inl ⟨by rfl, ?_⟩) hHeld ?_
  case refine_2 => (intro w hSw; (try dsimp only at hSw); (try (obtain ⟨s0, s1, s2, s3⟩ := hSw)); simp only [List.getElem_cons_zero, List.getElem_cons_succ]; go_simp <;> with_reducible rfl)
  simp only [List.getElem_cons_zero, List.getElem_cons_succ, Act.put, List.setIfInBounds_toArray, List.set_cons_zero, List.set_cons_succ]
  refine held_take 11 (v := ?_) (by simp) (by kernel_rfl) (by kernel_rfl) (by kernel_rfl) (fun _ _ _ h => h) (Or.inl ⟨by rfl, ?_⟩) hHeld ?_
  case refine_2 => (intro w hSw; (try dsimp only at hSw); (try (obtain ⟨s0, s1, s2, s3⟩ := hSw)); simp only [List.getElem_cons_zero, List.getElem_cons_succ]; go_simp <;> with_reducible rfl)
  simp only [List.getElem_cons_zero, List.getElem_cons_succ, Act.put, List.setIfInBounds_toArray, List.set_cons_zero, List.set_cons_succ]
  refine held_sole 12 (by simp) (by kernel_rfl) (fun K hK => ?_)
  simp only [List.getElem_cons_zero, List.getElem_cons_succ]
  go_simp
  refine (show Calls _ _ _ w.drew _ from HLA.out 1).mono ?_
  rintro e w1 ⟨rfl, hb1⟩
  have hb2 : Below w.heap.size w w1 := ((Below.refl _ w).drew).trans hb1
  have HB := Lib.hid hb2
  have k0 : w1.cell? ⟨gj, 2, none⟩ = some (.slice (some ⟨ab, ao, none⟩) (n + 1) c) := (hb2.cell (p := ⟨gj, 2, none⟩) (World.block_lt_of_cell? w ⟨gj, 2, none⟩ c2)).trans c2
  have k1 : w1.cell? ⟨ab, ao + n, none⟩ = some (.pointer (some ⟨b, o, none⟩)) := (hb2.cell (p := ⟨ab, ao + n, none⟩) hal).trans e0
  refine hK.out _ _ ⟨k0, k1, trivial, trivial⟩ (fun hHeld => ?_)
  clear hK K hb1 hb2
  try simp only [Act.put, List.setIfInBounds_toArray, List.set_cons_zero, List.set_cons_succ]
  refine held_take 13 (v := ?_) (by simp) (by kernel_rfl) (by kernel_rfl) (by kernel_rfl) (fun _ _ _ h => h) (Or.inl ⟨by rfl, ?_⟩) hHeld ?_
  case refine_2 => (intro w hSw; (try dsimp only at hSw); (try (obtain ⟨s0, s1, s2, s3⟩ := hSw)); simp only [List.getElem_cons_zero, List.getElem_cons_succ]; go_simp <;> with_reducible rfl)
  simp only [List.getElem_cons_zero, List.getElem_cons_succ, Act.put, List.setIfInBounds_toArray, List.set_cons_zero, List.set_cons_succ]
  refine held_take 14 (v := ?_) (by simp) (by kernel_rfl) (by kernel_rfl) (by kernel_rfl) (fun _ _ _ h => h) (Or.inl ⟨by rfl, ?_⟩) hHeld ?_
  case refine_2 => (intro w hSw; (try dsimp only at hSw); (try (obtain ⟨s0, s1, s2, s3⟩ := hSw)); simp only [List.getElem_cons_zero, List.getElem_cons_succ]; go_simp <;> with_reducible rfl)
  simp only [List.getElem_cons_zero, List.getElem_cons_succ, Act.put, List.setIfInBounds_toArray, List.set_cons_zero, List.set_cons_succ]
  refine held_take 15 (v := ?_) (by simp) (by kernel_rfl) (by kernel_rfl) (by kernel_rfl) (fun _ _ _ h => h) (Or.inl ⟨by rfl, ?_⟩) hHeld ?_
  case refine_2 => (intro w hSw; (try dsimp only at hSw); (try (obtain ⟨s0, s1, s2, s3⟩ := hSw)); simp only [List.getElem_cons_zero, List.getElem_cons_succ]; go_simp <;> with_reducible rfl)
  simp only [List.getElem_cons_zero, List.getElem_cons_succ, Act.put, List.setIfInBounds_toArray, List.set_cons_zero, List.set_cons_succ]
  refine held_take 16 (v := ?_) (by simp) (by kernel_rfl) (by kernel_rfl) (by kernel_rfl) (fun _ _ _ h => h) (Or.inl ⟨by rfl, ?_⟩) hHeld ?_
  case refine_2 => (intro w hSw; (try dsimp only at hSw); (try (obtain ⟨s0, s1, s2, s3⟩ := hSw)); simp only [List.getElem_cons_zero, List.getElem_cons_succ]; go_simp <;> with_reducible rfl)
  simp only [List.getElem_cons_zero, List.getElem_cons_succ, Act.put, List.setIfInBounds_toArray, List.set_cons_zero, List.set_cons_succ]
  refine wpAnyH_done (by kernel_rfl) ?_ _
  go_wp2_with fail
  go_ret2
  exact ⟨rfl, HB.out⟩
end
end Go.Proofs.YtgeofijddhflaaaGreatDoor
set_option linter.unusedVariables false
set_option linter.unusedSimpArgs false
namespace Go.Proofs.YtgeofijddhflaaaGreatDoor
open Go.RowKit Oct
set_option maxHeartbeats 1000000 in
theorem jlong1_any (ix tm kd : Int) (Av : Option Addr) (n c : Nat) (w : World) :
  Calls Tryz.prog 112 #[.agg #[.int .i64 ix, .int .i64 tm, .int .i64 kd, .slice Av n c]] w fun e w' => e = .returned (.bool (decide (65535 < n))) ∧ Below w.heap.size w w' := by
 obtain ⟨wA, hwA⟩ : ∃ W, W = w.alloc (.cells #[.int .i64 ix, .int .i64 tm, .int .i64 kd, .slice Av n c] 65) := ⟨_, rfl⟩
 have hb : Below w.heap.size w wA := by rw [hwA]; exact (Below.refl _ w).alloc (Nat.le_refl _) _
 have hk : Blk wA w.heap.size 65 #[.int .i64 ix, .int .i64 tm, .int .i64 kd, .slice Av n c] := by rw [hwA]; exact Blk.new w _ _
 have c3 : wA.cell? ⟨w.heap.size, 3, none⟩ = some (.slice Av n c) := hk.cell 3
 have HW := Lib.hid hwA
 have HB := Lib.hid hb
 clear hwA hb hk
 go_enter Tryz.func112, Tryz.ntmps112
 go_upto_region 1 with fail
 rw [← HW.out]
 go_wp2_with fail
 go_ret
 exact ⟨by simp; omega, HB.out⟩
set_option maxHeartbeats 1000000 in
theorem jidxf_any {F : Nat → Prop} (A : Option Addr) (rs : List EntR) (c : Nat) (w : World) (hr : RdF w F A (erCells rs)) (hF : ∀ k, F k → k < w.heap.size) (hv : ∀ q ∈ rs, ∃ Av cd, q.v = .slice Av q.e.b.length cd) (hl : rs.length ≤ 1099511627776) :
  Calls Tryz.prog 156 #[.slice A rs.length c, .func (.func 112) #[] #[]] w fun e w' => (∃ r : Int, e = .returned (.int .i64 r) ∧ decide (0 ≤ r) = rs.any fun q => decide (65535 < q.e.b.length)) ∧ Below w.heap.size w w' := by
 have HR := Lib.hid hr
 have HF := Lib.hid hF
 have HV := Lib.hid hv
 clear hr hF hv
 go_enter Tryz.func156, Tryz.ntmps156
 go_wp2_with fail
 go_loopw [8, 5] (fun i _ wr => ∃ k : Nat, k ≤ rs.length ∧ i = .int .i64 k ∧ Hid ((rs.take k).any (fun q => decide (65535 < q.e.b.length)) = false) ∧ Hid (Below w.heap.size w wr)) (fun i _ _ => rs.length - (intOf i).toNat)
 case atStart => exact ⟨0, by omega, rfl, Lib.hid rfl, Lib.hid (Below.refl _ _)⟩
 case round =>
  obtain ⟨k, hk, rfl, HA, HB⟩ := hrel
  by_cases hlt : k < rs.length
  ·have hrk := HR.out.keep HB.out.size (fun k hk => HB.out.block k (HF.out k hk))
   obtain ⟨eb, eo, rfl, _, hgl, hc⟩ := hrk (by rw [erCells_len]; omega)
   have hat : ∀ i, i < 4 → (erCells rs)[k * 4 + i]? = (erOne rs[k])[i]? := fun i hi => erCells_at _ hlt hi
   obtain ⟨Av, cd, hqv⟩ := HV.out rs[k] (List.getElem_mem hlt)
   have htk : rs.take (k + 1) = rs.take k ++ [rs[k]] := by
    rw [List.take_add_one, List.getElem?_eq_getElem hlt]
    rfl
   obtain ⟨q, hq⟩ : ∃ q, q = rs[k] := ⟨_, rfl⟩
   rw [← hq] at htk hqv
   have e0 : wr.cell? ⟨eb, eo + k * 4, none⟩ = some (.int .i64 q.e.ix) := hc (k * 4 + 0) _ (by rw [hat 0 (by omega), ← hq]; rfl)
   have e1 : wr.cell? ⟨eb, eo + k * 4 + 1, none⟩ = some (.int .i64 q.e.tm) := hc (k * 4 + 1) _ (by rw [hat 1 (by omega), ← hq]; rfl)
   have e2 : wr.cell? ⟨eb, eo + k * 4 + 2, none⟩ = some (.int .i64 q.e.kd) := hc (k * 4 + 2) _ (by rw [hat 2 (by omega), ← hq]; rfl)
   have e3 : wr.cell? ⟨eb, eo + k * 4 + 3, none⟩ = some (.slice Av q.e.b.length cd) := hc (k * 4 + 3) _ (by rw [hat 3 (by omega), ← hq, ← hqv]; rfl)
   have HTK := Lib.hid htk
   have HSP := Lib.hid (show rs = rs.take (k + 1) ++ rs.drop (k + 1) from (List.take_append_drop _ _).symm)
   have HL := Lib.hid (jlong1_any q.e.ix q.e.tm q.e.kd Av q.e.b.length cd wr)
   clear htk hq hat hqv hrk hc
   go_wp2_with fail
   refine HL.out.mono ?_
   rintro e w2 ⟨rfl, hb2⟩
   have HB2 := Lib.hid (HB.out.trans (hb2.mono HB.out.size))
   clear hb2 HL e0 e1 e2 e3
   by_cases e : 65535 < q.e.b.length
   ·have HE := Lib.hid e
    have hs : decide (65535 < q.e.b.length) = true := decide_eq_true e
    clear e
    go_wp2_with fail
    go_ret
    refine ⟨⟨_, rfl, ?_⟩, HB2.out⟩
    rw [HSP.out, HTK.out]
    simp [HE.out]
   ·have HE := Lib.hid e
    have hs : decide (65535 < q.e.b.length) = false := decide_eq_false e
    clear e
    go_wp2_with fail
    go_roundw
    case rel => exact ⟨k + 1, by omega, by go_num, Lib.hid (by rw [HTK.out, List.any_append, HA.out]; simpa using HE.out), HB2⟩
    case measure => simp [intOf]; omega
  ·obtain rfl : k = rs.length := by omega
   go_wp2_with fail
   go_ret
   have h1 := HA.out
   rw [List.take_length] at h1
   refine ⟨⟨_, rfl, ?_⟩, HB.out⟩
   rw [h1]
   decide
set_option maxHeartbeats 1000000 in
theorem jcontf_any {F : Nat → Prop} (A : Option Addr) (rs : List EntR) (c : Nat) (w : World) (hr : RdF w F A (erCells rs)) (hF : ∀ k, F k → k < w.heap.size) (hv : ∀ q ∈ rs, ∃ Av cd, q.v = .slice Av q.e.b.length cd) (hl : rs.length ≤ 1099511627776) :
  Calls Tryz.prog 111 #[.slice A rs.length c, .func (.func 112) #[] #[]] w fun e w' => e = .returned (.bool (rs.any fun q => decide (65535 < q.e.b.length))) ∧ Below w.heap.size w w' := by
 have HC := Lib.hid (jidxf_any A rs c w hr hF hv hl)
 clear hr hF hv
 go_enter Tryz.func111, Tryz.ntmps111
 go_wp2_with fail
 refine HC.out.mono ?_
 rintro e w2 ⟨⟨r, rfl, hr⟩, hb⟩
 have HR := Lib.hid hr
 have HB := Lib.hid hb
 clear hr hb HC
 go_wp2_with fail
 go_ret
 exact ⟨by rw [HR.out]; rfl, HB.out⟩
def stepB (base : Int) (e : EntP) (last : Int) (prev : Option Int) : Bool := decide (e.ix ≤ base) || decide (last < e.ix - 1) || decide (e.ix = maxInt) || (match prev with | none => false | some p => decide (e.ix - 1 ≠ p)) || decide (e.tm < 0) || decide (e.kd < 0)
theorem mayRow_cons (base : Int) (e : EntP) (r : List EntP) (last : Int) (prev : Option Int) : mayRow base (e :: r) last prev = (!stepB base e last prev && mayRow base r e.ix (some e.ix)) := rfl
def prevJ (L : List EntP) (k : Nat) : Option Int := if k = 0 then none else (L[k - 1]?).map EntP.ix
theorem prevJ_succ {L : List EntP} {k : Nat} (h : k < L.length) : prevJ L (k + 1) = some L[k].ix := by
 unfold prevJ
 rw [if_neg (by omega), Nat.add_sub_cancel, List.getElem?_eq_getElem h]
 rfl
theorem JnP.base_low {w : World} {F : Nat → Prop} {gj g : Nat} {j : JnP} (h : JAt w F gj g j) : -1 ≤ j.base.1 ∧ j.base.1 ≤ 9223372036854775807 := by
 unfold JnP.base
 rcases hs : j.segs with _ | ⟨s, r⟩
 ·simp
 ·obtain ⟨⟨A, c, ads, h1, h2, h3, h4, h5⟩, h6, _⟩ := h
  have hs0 : 0 < j.segs.length := by rw [hs]; simp
  have hM := h5 0 (by omega) hs0
  simp only [hs, List.getElem_cons_zero] at hM
  have := hM.rd.num.first
  simp only
  omega
theorem JnP.last_low {w : World} {F : Nat → Prop} {gj g : Nat} {j : JnP} (h : JAt w F gj g j) : -9223372036854775808 ≤ j.last.1 ∧ j.last.1 ≤ 9223372036854775807 := by
 unfold JnP.last
 rcases List.eq_nil_or_concat j.segs with hs | ⟨r, s, hs⟩
 ·rw [hs]; simp
 ·rw [List.concat_eq_append] at hs
  obtain ⟨⟨A, c, ads, h1, h2, h3, h4, h5⟩, h6, _⟩ := h
  have hl : j.segs.length = r.length + 1 := by rw [hs]; simp
  have hM := h5 r.length (by omega) (by omega)
  simp only [hs, List.getElem_concat_length] at hM
  rw [hs]
  simp only [List.getLast?_append, List.getLast?_singleton, Option.some_or]
  unfold SegP.last
  have hn := hM.rd.num
  rcases List.eq_nil_or_concat s.l with h0 | ⟨r2, e, h0⟩
  ·rw [h0]
   have := hn.first
   simp only [List.getLast?_nil]
   omega
  ·rw [List.concat_eq_append] at h0
   have := hn.ent e (by rw [h0]; simp)
   rw [h0]
   simp only [List.getLast?_append, List.getLast?_singleton, Option.some_or]
   omega
set_option maxHeartbeats 8000000 in
set_option maxRecDepth 100000 in
theorem jmay_any {E F : Nat → Prop} {gj g : Nat} {j : JnP} {w : World} (h : JAt w F gj g j) (hFl : ∀ k, F k → k < w.heap.size) (A : Option Addr) (rs : List EntR) (c : Nat) (hr : RdF w E A (erCells rs)) (hE : ∀ k, E k → k < w.heap.size) (hv : ∀ q ∈ rs, ∃ Av cd, q.v = .slice Av q.e.b.length cd) (hl : rs.length ≤ 1099511627776)
  (hnum : ∀ q ∈ rs, (-9223372036854775808 ≤ q.e.ix ∧ q.e.ix ≤ 9223372036854775807) ∧ (-9223372036854775808 ≤ q.e.tm ∧ q.e.tm ≤ 9223372036854775807) ∧ (-9223372036854775808 ≤ q.e.kd ∧ q.e.kd ≤ 9223372036854775807)) :
  Calls Tryz.prog 58 #[.pointer (some ⟨gj, 0, none⟩), .slice A rs.length c] w fun e w' => e = .returned (.int .i64 (mayJ j (rs.map EntR.e))) ∧ Below w.heap.size w w' := by
 have HBASE := Lib.hid h.base
 have HLAST := Lib.hid fun w' (hb : Below w.heap.size w w') => (h.below hFl hb).last
 have hbl := JnP.base_low h
 have hll := JnP.last_low h
 obtain ⟨L, hL⟩ : ∃ L, L = rs.map EntR.e := ⟨_, rfl⟩
 obtain ⟨ba, hba⟩ : ∃ x, x = j.base.1 := ⟨_, rfl⟩
 obtain ⟨bt, hbt⟩ : ∃ x, x = j.base.2 := ⟨_, rfl⟩
 obtain ⟨la, hla⟩ : ∃ x, x = j.last.1 := ⟨_, rfl⟩
 obtain ⟨lt, hlt⟩ : ∃ x, x = j.last.2 := ⟨_, rfl⟩
 obtain ⟨an, han⟩ : ∃ b, b = L.any fun e => decide (65535 < e.b.length) := ⟨_, rfl⟩
 obtain ⟨mr, hmrw⟩ : ∃ b, b = mayRow ba L la none := ⟨_, rfl⟩
 have hmj : mayJ j (rs.map EntR.e) = if mr = false then 1 else if an = true then 2 else 0 := by rw [hmrw, han, hL, hba, hla]; rfl
 rw [hmj]
 have HAN := Lib.hid han
 have HMW := Lib.hid hmrw
 rw [← hba, ← hbt] at HBASE
 rw [← hba] at hbl
 rw [← hla] at hll
 have HLAST2 : Hid (∀ w', Below w.heap.size w w' → Calls Tryz.prog 40 #[.pointer (some ⟨gj, 0, none⟩)] w' fun e w2 => e = .returned (.tuple #[.int .i64 la, .int .i64 lt]) ∧ Below w'.heap.size w' w2) := Lib.hid (fun w' hb => by rw [hla, hlt]; exact HLAST.out w' hb)
 have HR := Lib.hid hr
 have HE := Lib.hid hE
 have HV := Lib.hid hv
 have HNUM := Lib.hid hnum
 have HL := Lib.hid hL
 have hLl : L.length = rs.length := by rw [hL, List.length_map]
 have HLL := Lib.hid hLl
 clear h hr hE hv hnum hL hba hbt hla hlt hmj HLAST hLl hFl han hmrw
 go_enter Tryz.func58, Tryz.ntmps58
 go_wp2_with fail
 refine HBASE.out.mono ?_
 rintro e w1 ⟨rfl, hb1⟩
 have HB1' := Lib.hid hb1
 have HLA := Lib.hid (HLAST2.out w1 hb1)
 clear hb1 HBASE HLAST2
 go_wp2_with fail
 refine HLA.out.mono ?_
 rintro e w2 ⟨rfl, hb2⟩
 have HB2 := Lib.hid (HB1'.out.trans (hb2.mono HB1'.out.size))
 clear hb2 HLA HB1'
 go_wp2_with fail
 go_loopw [27, 7, 9, 10] (fun i lv _ _ wr => ∃ (k : Nat) (ls : Int), k ≤ rs.length ∧ i = .int .i64 k ∧ lv = .int .i64 ls ∧ (-9223372036854775808 ≤ ls ∧ ls ≤ 9223372036854775807) ∧ Hid (mayRow ba L la none = mayRow ba (L.drop k) ls (prevJ L k)) ∧ Hid (∀ p, prevJ L k = some p → p = ls) ∧ Hid (Below w.heap.size w wr)) (fun i _ _ _ _ => rs.length - (intOf i).toNat)
 case atStart => exact ⟨0, la, by omega, rfl, rfl, hll, Lib.hid rfl, Lib.hid (fun p hp => by cases hp), HB2⟩
 case round =>
  obtain ⟨k, ls, hk, rfl, rfl, hls, HMR, HPV, HB⟩ := hrel
  clear HB2
  by_cases hlt : k < rs.length
  ·have hrk := HR.out.keep HB.out.size (fun k hk => HB.out.block k (HE.out k hk))
   obtain ⟨eb, eo, rfl, _, hgl, hc⟩ := hrk (by rw [erCells_len]; omega)
   have hat : ∀ i, i < 4 → (erCells rs)[k * 4 + i]? = (erOne rs[k])[i]? := fun i hi => erCells_at _ hlt hi
   obtain ⟨Av, cd, hqv⟩ := HV.out rs[k] (List.getElem_mem hlt)
   have hnu := HNUM.out rs[k] (List.getElem_mem hlt)
   have hLk : L[k]'(by rw [HLL.out]; exact hlt) = rs[k].e := by simp only [HL.out, List.getElem_map]
   have hprev : 0 < k → ∃ cs, wr.cell? ⟨eb, eo + (k - 1) * 4, none⟩ = some (.int .i64 ls) ∧ prevJ L k = some ls ∧ cs = () := fun h0 => by
    have h1 : k - 1 < rs.length := by omega
    have h2 := hc ((k - 1) * 4 + 0) _ (by rw [erCells_at _ h1 (by omega)]; rfl)
    have h3 : prevJ L k = some rs[k - 1].e.ix := by
     unfold prevJ
     rw [if_neg (by omega), List.getElem?_eq_getElem (by rw [HLL.out]; exact h1)]
     simp only [HL.out, List.getElem_map, Option.map_some]
    have h4 := HPV.out _ h3
    rw [h4] at h2 h3
    exact ⟨(), h2, h3, rfl⟩
   have HPR := Lib.hid hprev
   have hdr : L.drop k = rs[k].e :: L.drop (k + 1) := by rw [← hLk]; exact List.drop_eq_getElem_cons (by rw [HLL.out]; exact hlt)
   have hps : prevJ L (k + 1) = some rs[k].e.ix := by rw [prevJ_succ (by rw [HLL.out]; exact hlt), hLk]
   obtain ⟨q, hq⟩ : ∃ q, q = rs[k] := ⟨_, rfl⟩
   rw [← hq] at hqv hnu hdr hps
   obtain ⟨ix, hix⟩ : ∃ x, x = q.e.ix := ⟨_, rfl⟩
   obtain ⟨tm, htm⟩ : ∃ x, x = q.e.tm := ⟨_, rfl⟩
   obtain ⟨kd, hkd⟩ : ∃ x, x = q.e.kd := ⟨_, rfl⟩
   obtain ⟨nb, hnb⟩ : ∃ x, x = q.e.b.length := ⟨_, rfl⟩
   have e0 : wr.cell? ⟨eb, eo + k * 4, none⟩ = some (.int .i64 ix) := hc (k * 4 + 0) _ (by rw [hat 0 (by omega), ← hq, hix]; rfl)
   have e1 : wr.cell? ⟨eb, eo + k * 4 + 1, none⟩ = some (.int .i64 tm) := hc (k * 4 + 1) _ (by rw [hat 1 (by omega), ← hq, htm]; rfl)
   have e2 : wr.cell? ⟨eb, eo + k * 4 + 2, none⟩ = some (.int .i64 kd) := hc (k * 4 + 2) _ (by rw [hat 2 (by omega), ← hq, hkd]; rfl)
   have e3 : wr.cell? ⟨eb, eo + k * 4 + 3, none⟩ = some (.slice Av nb cd) := hc (k * 4 + 3) _ (by rw [hat 3 (by omega), ← hq, hnb, ← hqv]; rfl)
   obtain ⟨B, hB⟩ : ∃ B, B = stepB ba q.e ls (prevJ L k) := ⟨_, rfl⟩
   have hmr : mayRow ba L la none = (!B && mayRow ba (L.drop (k + 1)) ix (prevJ L (k + 1))) := by rw [HMR.out, hdr, mayRow_cons, ← hB, hps, hix]
   unfold stepB at hB
   rw [← hix, ← htm, ← hkd] at hB
   rw [← hix, ← htm, ← hkd] at hnu
   rw [← hix] at hps
   have HMR2 := Lib.hid hmr
   have HBB := Lib.hid hB
   have HPS := Lib.hid hps
   obtain ⟨wB, hwB⟩ : ∃ W, W = wr.alloc (.cells #[.int .i64 ix, .int .i64 tm, .int .i64 kd, .slice Av nb cd] 65) := ⟨_, rfl⟩
   have hBX : Below wr.heap.size wr wB := by rw [hwB]; exact (Below.refl _ wr).alloc (Nat.le_refl _) _
   have hBK : Blk wB wr.heap.size 65 #[.int .i64 ix, .int .i64 tm, .int .i64 kd, .slice Av nb cd] := by rw [hwB]; exact Blk.new wr _ _
   have HBX := Lib.hid hBX
   have HBK := Lib.hid hBK
   have HWB := Lib.hid hwB
   have HHB := Lib.hid (HB.out.trans (hBX.mono HB.out.size))
   have HPB := Lib.hid (show 0 < k → wB.cell? ⟨eb, eo + (k - 1) * 4, none⟩ = some (.int .i64 ls) from fun h0 => by
    obtain ⟨_, h1, _, _⟩ := HPR.out h0
    exact (hBX.cell (p := ⟨eb, eo + (k - 1) * 4, none⟩) hgl).trans h1)
   have HPN := Lib.hid (show (0 < k → prevJ L k = some ls) ∧ (¬ 0 < k → prevJ L k = none) from ⟨fun h0 => by obtain ⟨_, _, h1, _⟩ := HPR.out h0; exact h1, fun h0 => by unfold prevJ; rw [if_pos (by omega)]⟩)
   clear hrk hc hat hqv hLk hprev hdr hps hq hix htm hkd hnb hB hmr hwB hBX hBK HPR HMR HPV
   go_upto_region 6 with fail
   rw [← HWB.out]
   obtain ⟨b10, hb10⟩ : ∃ n, n = wr.heap.size := ⟨_, rfl⟩
   have f0 : wB.cell? ⟨b10, 0, none⟩ = some (.int .i64 ix) := by rw [hb10]; exact HBK.out.cell 0
   have f1 : wB.cell? ⟨b10, 1, none⟩ = some (.int .i64 tm) := by rw [hb10]; exact HBK.out.cell 1
   have f2 : wB.cell? ⟨b10, 2, none⟩ = some (.int .i64 kd) := by rw [hb10]; exact HBK.out.cell 2
   rw [← hb10]
   have HB10 := Lib.hid hb10
   clear hb10 e0 e1 e2 e3 HWB HBK
   go_cut [73] from 32 to 73 (fun c wx => c = .bool B ∧ Hid (Below wB.heap.size wB wx))
   case first =>
    clear HNUM HL HLL HR HE HV HB HMR2 HPS HHB HB10 hll
    by_cases h1 : ix ≤ ba
    ·have d1 : decide (ix ≤ ba) = true := decide_eq_true h1
     have HBV : Hid (B = true) := Lib.hid (by rw [HBB.out]; simp [h1])
     clear HBB HPN HPB
     go_big_quiet (fail)
     go_wp2_with fail
     go_meet
     exact ⟨by first | (rw [HBV.out]; done) | (rw [HBV.out]; rfl), Lib.hid (below_drewN (Below.refl _ wB) _)⟩
    ·have d1 : decide (ix ≤ ba) = false := decide_eq_false h1
     have hw1 : IntKind.i64.wrap (ix - 1) = ix - 1 := IntWalk.i64_in _ (by omega)
     by_cases h2 : ls < ix - 1
     ·have d2 : decide (ls < ix - 1) = true := decide_eq_true h2
      have HBV : Hid (B = true) := Lib.hid (by rw [HBB.out]; simp [h2])
      clear HBB HPN HPB
      go_big_quiet (fail)
      go_wp2_with fail
      go_meet
      exact ⟨by first | (rw [HBV.out]; done) | (rw [HBV.out]; rfl), Lib.hid (below_drewN (Below.refl _ wB) _)⟩
     ·have d2 : decide (ls < ix - 1) = false := decide_eq_false h2
      by_cases h3 : ix = 9223372036854775807
      ·have d3 : (ix == 9223372036854775807) = true := beq_iff_eq.2 h3
       have HBV : Hid (B = true) := Lib.hid (by rw [HBB.out]; simp [h3, maxInt])
       have hw2 : ix - 1 = ix - 1 := rfl
       clear HBB HPN HPB h3 hw2
       go_big_quiet (fail)
       go_wp2_with fail
       go_meet
       exact ⟨by first | (rw [HBV.out]; done) | (rw [HBV.out]; rfl), Lib.hid (below_drewN (Below.refl _ wB) _)⟩
      ·have d3 : (ix == 9223372036854775807) = false := beq_eq_false_iff_ne.2 h3
       by_cases h4 : 0 < k
       ·have d4 : decide (0 < k) = true := decide_eq_true h4
        have hpn := HPN.out.1 h4
        have hpb := HPB.out h4
        obtain ⟨m, hm⟩ : ∃ m, k = m + 1 := ⟨k - 1, by omega⟩
        rw [show k - 1 = m by omega] at hpb
        have HPJ := Lib.hid hpn
        have hsub : (k : Int) - 1 = (m : Int) := by omega
        have hwm : IntKind.i64.wrap (m : Int) = (m : Int) := IntWalk.i64_in _ (by omega)
        have hml : m < rs.length := by omega
        have hml2 : (m : Int) < (rs.length : Int) := by omega
        clear hpn hm
        by_cases h5 : ix - 1 = ls
        ·have d5 : (ix - 1 != ls) = false := by rw [bne_eq_false_iff_eq]; exact h5
         by_cases h6 : tm < 0
         ·have d6 : decide (tm < 0) = true := decide_eq_true h6
          have HBV : Hid (B = true) := Lib.hid (by rw [HBB.out]; simp [h6])
          clear HBB HPN HPB
          go_big_quiet (fail)
          go_wp2_with fail
          go_meet
          exact ⟨by first | (rw [HBV.out]; done) | (rw [HBV.out]; rfl), Lib.hid (below_drewN (Below.refl _ wB) _)⟩
         ·have d6 : decide (tm < 0) = false := decide_eq_false h6
          by_cases h7 : kd < 0
          ·have d7 : decide (kd < 0) = true := decide_eq_true h7
           have HBV : Hid (B = true) := Lib.hid (by rw [HBB.out]; simp [h7])
           clear HBB HPN HPB
           go_big_quiet (fail)
           go_wp2_with fail
           go_meet
           exact ⟨by first | (rw [HBV.out]; done) | (rw [HBV.out]; rfl), Lib.hid (below_drewN (Below.refl _ wB) _)⟩
          ·have d7 : decide (kd < 0) = false := decide_eq_false h7
           have HBV : Hid (B = false) := Lib.hid (by rw [HBB.out]; rw [HPJ.out]; simp [h1, h2, h3, h6, h7, maxInt, h5])
           clear HBB HPN HPB
           go_big_quiet (fail)
           go_wp2_with fail
           go_meet
           exact ⟨by first | (rw [HBV.out]; done) | (rw [HBV.out]; rfl), Lib.hid (below_drewN (Below.refl _ wB) _)⟩
        ·have d5 : (ix - 1 != ls) = true := bne_iff_ne.2 h5
         have HBV : Hid (B = true) := Lib.hid (by rw [HBB.out]; rw [HPJ.out]; simp [h5])
         clear HBB HPN HPB
         go_big_quiet (fail)
         go_wp2_with fail
         go_meet
         exact ⟨by first | (rw [HBV.out]; done) | (rw [HBV.out]; rfl), Lib.hid (below_drewN (Below.refl _ wB) _)⟩
       ·have d4 : decide (0 < k) = false := decide_eq_false h4
        have HPJ := Lib.hid (HPN.out.2 h4)
        by_cases h6 : tm < 0
        ·have d6 : decide (tm < 0) = true := decide_eq_true h6
         have HBV : Hid (B = true) := Lib.hid (by rw [HBB.out]; simp [h6])
         clear HBB HPN HPB
         go_big_quiet (fail)
         go_wp2_with fail
         go_meet
         exact ⟨by first | (rw [HBV.out]; done) | (rw [HBV.out]; rfl), Lib.hid (below_drewN (Below.refl _ wB) _)⟩
        ·have d6 : decide (tm < 0) = false := decide_eq_false h6
         by_cases h7 : kd < 0
         ·have d7 : decide (kd < 0) = true := decide_eq_true h7
          have HBV : Hid (B = true) := Lib.hid (by rw [HBB.out]; simp [h7])
          clear HBB HPN HPB
          go_big_quiet (fail)
          go_wp2_with fail
          go_meet
          exact ⟨by first | (rw [HBV.out]; done) | (rw [HBV.out]; rfl), Lib.hid (below_drewN (Below.refl _ wB) _)⟩
         ·have d7 : decide (kd < 0) = false := decide_eq_false h7
          have HBV : Hid (B = false) := Lib.hid (by rw [HBB.out]; rw [HPJ.out]; simp [h1, h2, h3, h6, h7, maxInt])
          clear HBB HPN HPB
          go_big_quiet (fail)
          go_wp2_with fail
          go_meet
          exact ⟨by first | (rw [HBV.out]; done) | (rw [HBV.out]; rfl), Lib.hid (below_drewN (Below.refl _ wB) _)⟩
   case rest =>
    obtain ⟨rfl, HBC⟩ := hcut
    have hb10l := World.block_lt_of_cell? wB ⟨b10, 0, none⟩ f0
    have g0 : wc.cell? ⟨b10, 0, none⟩ = some (.int .i64 ix) := (HBC.out.cell (p := ⟨b10, 0, none⟩) hb10l).trans f0
    have HBF := Lib.hid (HHB.out.trans (HBC.out.mono HHB.out.size))
    clear f0 f1 f2 HBC HBB HPB
    cases B with
    | true =>
     have hm : mr = false := by rw [HMW.out, HMR2.out]; rfl
     subst hm
     clear HMR2
     go_wp2_with fail
     go_ret
     exact ⟨rfl, HBF.out⟩
    | false =>
     go_wp2_with fail
     go_roundw
     case rel => exact ⟨k + 1, ix, by omega, by go_num, rfl, hnu.1, Lib.hid (by rw [HMR2.out]; rfl), Lib.hid (fun p hp => by rw [HPS.out] at hp; injection hp with hp; exact hp.symm), HBF⟩
     case measure => simp [intOf]; omega
  ·obtain rfl : k = rs.length := by omega
   have hm : mr = true := by rw [HMW.out, HMR.out, List.drop_eq_nil_of_le (by rw [HLL.out]; exact Nat.le_refl _)]; rfl
   subst hm
   have hcf := jcontf_any A rs c wr (HR.out.keep HB.out.size (fun k hk => HB.out.block k (HE.out k hk))) (fun k hk => by have := HE.out k hk; have := HB.out.size; omega) HV.out hl
   have hany : (rs.any fun q => decide (65535 < q.e.b.length)) = L.any fun e => decide (65535 < e.b.length) := by rw [HL.out, List.any_map]; rfl
   rw [hany, ← HAN.out] at hcf
   have HCF := Lib.hid hcf
   clear hcf hany HMR HPV HAN
   go_wp2_with fail
   refine HCF.out.mono ?_
   rintro e w2 ⟨rfl, hb2⟩
   have HBF := Lib.hid (HB.out.trans (hb2.mono HB.out.size))
   clear hb2 HCF
   cases an with
   | true =>
    go_wp2_with fail
    go_ret
    exact ⟨rfl, HBF.out⟩
   | false =>
    go_wp2_with fail
    go_ret
    exact ⟨rfl, HBF.out⟩
end Go.Proofs.YtgeofijddhflaaaGreatDoor
