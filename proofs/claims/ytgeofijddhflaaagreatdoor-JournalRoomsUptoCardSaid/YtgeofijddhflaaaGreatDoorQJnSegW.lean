/- journal: a segment of a call's own, at work; ahead. Condition: its memory is known. -/
import Derived.Test.YtgeofijddhflaaaGreatDoorQJnMk
import Derived.Test.YtgeofijddhflaaaGreatDoorQJnSame
import Derived.Test.YtgeofijddhflaaaGreatDoorQJnList
import Derived.Test.YtgeofijddhflaaaGreatDoorQJnSeg
import Derived.Test.YtgeofijddhflaaaGreatDoorQJnMay
import Derived.Test.YtgeofijddhflaaaGreatDoorQHeld
import Derived.Deep.CutBlock
set_option linter.unusedVariables false
set_option linter.unusedSimpArgs false
namespace Go.Proofs.YtgeofijddhflaaaGreatDoor
open Go.RowKit Go.Maps Oct
structure OpS (w : World) (base g m : Nat) (es : List (Nm × FE)) (bd gj : Nat) (d : DkD) (t v : Int) (sv : Value) (bad : Int) (wx : World) (es' : List (Nm × FE)) : Prop where
 disk : DiskAt wx base g m d.pw d.room es'
 fs : sec FE.f es' = d.fs
 jb : Blk wx gj 53 #[.int .i64 t, .int .i64 v, sv, .pointer (some ⟨g, 0, none⟩), .int .i64 bad]
 bx : Blk wx bd 26 #[.pointer (some ⟨g, 0, none⟩)]
 fr : Fr (DFoot g m es) w wx
 grow : ∀ k, DFoot g m es' k → DFoot g m es k ∨ w.heap.size ≤ k
 lo : w.heap.size ≤ bd ∧ bd < gj
section
variable {w wx wy : World} {base g m bd gj : Nat} {es es' : List (Nm × FE)} {d d' : DkD} {t v : Int} {sv : Value} {bad bad' : Int}
theorem OpS.below (h : OpS w base g m es bd gj d t v sv bad wx es') (hb : Below wx.heap.size wx wy) : OpS w base g m es bd gj d t v sv bad wy es' :=
 ⟨h.disk.below hb, h.fs, h.jb.below hb h.jb.lt, h.bx.below hb h.bx.lt, h.fr.trans (Fr.of_below (DFoot g m es) hb) (fun j hj => .inl hj), h.grow, h.lo⟩
theorem OpS.nj (h : OpS w base g m es bd gj d t v sv bad wx es') : ¬ DFoot g m es' gj := h.disk.not_foot h.jb (by decide) (by decide) (by decide)
theorem OpS.nb (h : OpS w base g m es bd gj d t v sv bad wx es') : ¬ DFoot g m es' bd := h.disk.not_foot h.bx (by decide) (by decide) (by decide)
theorem OpS.acts (h : OpS w base g m es bd gj d t v sv bad wx es') (hto : JnTo wx base g m es' gj t v sv d' bad' wy) : ∃ es2, OpS w base g m es bd gj d' t v sv bad' wy es2 ∧ (∀ k, DFoot g m es2 k → DFoot g m es' k ∨ wx.heap.size ≤ k) ∧ Fr (fun k => DFoot g m es' k ∨ k = gj) wx wy := by
 obtain ⟨es2, h1, h2, h3, h4, h5⟩ := hto
 have hlt := h.fr.size
 have hlo := h.lo
 refine ⟨es2, ⟨h1, h2, h3, ?_, ?_, fun k hk => ?_, h.lo⟩, h5, h4⟩
 ·exact h4.blk_ h.bx (by rintro (h6 | h6); exact h.nb h6; omega)
 ·exact h.fr.trans h4 (fun j hj => by
   rcases hj with hj | hj
   ·exact h.grow j hj
   ·exact .inr (by omega))
 ·rcases h5 k hk with h6 | h6
  ·exact h.grow k h6
  ·exact .inr (by omega)
theorem OpS.put {t' v' : Int} {sv' : Value} (h : OpS w base g m es bd gj d t v sv bad wx es') (hg : wx.grownBy wy (some gj)) (hB : Blk wy gj 53 #[.int .i64 t', .int .i64 v', sv', .pointer (some ⟨g, 0, none⟩), .int .i64 bad']) : OpS w base g m es bd gj d t' v' sv' bad' wy es' := by
 have hlo := h.lo
 refine ⟨h.disk.keep hg.size (fun k hk => hg.block k (h.disk.lt k hk).2 (fun e => by injection e with e; subst e; exact h.nj hk)), h.fs, hB, h.bx.grown hg (by intro e; injection e with e; omega), h.fr.trans (Fr.of_grown (mine := fun k => k = gj) hg (fun k e => by injection e with e; exact e.symm)) (fun j hj => .inr (by omega)), h.grow, h.lo⟩
theorem OpS.baseB (h : OpS w base g m es bd gj d t v sv bad wx es') (hD : ∀ k, DFoot g m es k → base ≤ k) (hb : base ≤ w.heap.size) : Below base w wx := h.fr.below hb hD
end
def newR (d : DkD) : Int × DkD := if (d.fs.any fun q => q.1 == metaNew) = true then d.remove metaNew else (0, d)
theorem openJ_up {d : DkD} (h : d.pw.off = false) : openJ d = if (newR d).1 = 0 then openRest (newR d).2 else ((newR d).1, none, (newR d).2) := by
 unfold openJ newR
 rw [if_neg (by rw [h]; simp)]
 split
 ·rfl
 ·rw [if_pos rfl]
theorem openJ_off {d : DkD} (h : d.pw.off = true) : openJ d = (50, none, d) := by
 unfold openJ
 rw [if_pos h]
theorem newR_off {d : DkD} (h : d.pw.off = false) (h0 : (newR d).1 = 0) : (newR d).2.pw.off = false := by
 unfold newR at h0 ⊢
 split
 ·rename_i h1
  rw [if_pos h1] at h0
  exact remove_off h0
 ·exact h
theorem newR_ok {d : DkD} {L : Nat} (h : JDk L d) : JDk L (newR d).2 := by
 unfold newR
 split
 ·exact h.run (.rm metaNew)
 ·exact h
end Go.Proofs.YtgeofijddhflaaaGreatDoor
set_option linter.unusedVariables false
set_option linter.unusedSimpArgs false
namespace Go.Proofs.YtgeofijddhflaaaGreatDoor
open Go.RowKit Go.Maps Oct
structure LstAt (w : World) (F : Nat → Prop) (A : Option Addr) (recs : List FndR) : Prop where
 addr : 0 < recs.length → ∃ gr, A = some ⟨gr, 0, none⟩ ∧ F gr ∧ gr < w.heap.size ∧ ∀ i (h : i < recs.length), SegRd w F ⟨gr, i * 6, none⟩ recs[i].s ∧ ∀ j u, (fOne recs[i])[j]? = some u → w.cell? ⟨gr, i * 6 + j, none⟩ = some u
section
variable {w w' : World} {F F' : Nat → Prop} {A : Option Addr} {recs : List FndR}
theorem LstAt.keep (h : LstAt w F A recs) (hs : w.heap.size ≤ w'.heap.size) (hk : ∀ k, F k → w'.heap[k]? = w.heap[k]?) : LstAt w' F A recs := ⟨fun h0 => by
 obtain ⟨gr, e, hF, hlt, hc⟩ := h.addr h0
 exact ⟨gr, e, hF, by omega, fun i hi => ⟨(hc i hi).1.keep hs hk, fun j u hu => (World.cell?_of_block (hk gr hF)).trans ((hc i hi).2 j u hu)⟩⟩⟩
theorem LstAt.mono (h : LstAt w F A recs) (hF : ∀ k, F k → F' k) : LstAt w F' A recs := ⟨fun h0 => by
 obtain ⟨gr, e, hFg, hlt, hc⟩ := h.addr h0
 exact ⟨gr, e, hF gr hFg, hlt, fun i hi => ⟨(hc i hi).1.mono hF, (hc i hi).2⟩⟩⟩
theorem LstAt.take (h : LstAt w F A recs) (n : Nat) : LstAt w F A (recs.take n) := ⟨fun h0 => by
 rw [List.length_take] at h0
 obtain ⟨gr, e, hFg, hlt, hc⟩ := h.addr (by omega)
 refine ⟨gr, e, hFg, hlt, fun i hi => ?_⟩
 rw [List.length_take] at hi
 rw [List.getElem_take]
 exact hc i (by omega)⟩
theorem LstAt.of_row {B c : Nat} (hrow : w.ownsRow B 106 6 (.slice A recs.length c) recs.length (fCells recs)) (hq : ∀ q ∈ recs, FndOk w B q) (hnum : ∀ q ∈ recs, SegB q.s) (hF : ∀ k, B ≤ k → k < w.heap.size → F k) : LstAt w F A recs := ⟨fun h0 => by
 obtain ⟨A', c', hv, h1, h2, h3⟩ := jrow_shape hrow
 obtain ⟨gr, cur, rfl, hgb, hgl, hgh, hgs, hgc⟩ := h3 h0
 injection hv with hv _ _
 subst hv
 have hcell : ∀ i (hi : i < recs.length) j u, (fOne recs[i])[j]? = some u → w.cell? ⟨gr, i * 6 + j, none⟩ = some u := fun i hi j u hu => by
  have hj := (List.getElem?_eq_some_iff.1 hu).1
  exact hgc _ _ ((fCells_at recs hi hj).trans hu)
 refine ⟨gr, rfl, hF gr hgb hgl, hgl, fun i hi => ⟨⟨?_, hnum _ (List.getElem_mem hi)⟩, hcell i hi⟩⟩
 have hok := hq _ (List.getElem_mem hi)
 obtain ⟨q, hqe⟩ : ∃ q, q = recs[i] := ⟨_, rfl⟩
 rw [← hqe] at hok ⊢
 have hrl : q.rs.length = q.s.l.length := by rw [← hok.map, List.length_map]
 obtain ⟨A1, c1, e1, k1, k2, _⟩ := jrow_shape hok.ents
 obtain ⟨A2, c2, e2, k3, k4, _⟩ := Own.shape hok.ends
 unfold FndR.vl at e1
 unfold FndR.ve at e2
 injection e1 with _ _ e1
 injection e2 with _ e3 e2
 rw [List.length_map] at k3 e3
 refine ⟨q.al, q.cl, q.rs, q.ae, q.ce, fun _ => ⟨gr, i * 6, rfl, hF gr hgb hgl, hgl, fun j u hu => hcell i hi j u ?_⟩, by rw [e1, ← hrl]; exact k1, by rw [e1]; unfold maxLen; omega, by rw [e2]; exact k3, by rw [e2]; exact k4, RdF.of_row hok.ents hF (by rw [erCells_len]; omega), hok.map, fun x hx => (hok.dat x hx).datF hF, RdF.of_own hok.ends hF⟩
 rw [← hqe]
 have hj := (List.getElem?_eq_some_iff.1 hu).1
 have : (fOne q)[j]? = ([Value.int .i64 q.s.k, .int .i64 q.s.first, .int .i64 q.s.term, .slice q.al q.s.l.length q.cl, .slice q.ae q.s.ends.length q.ce] : List Value)[j]? := by
  unfold fOne FndR.vl FndR.ve
  rw [hrl]
  simp only [List.length_cons, List.length_nil] at hj
  rcases (by omega : j = 0 ∨ j = 1 ∨ j = 2 ∨ j = 3 ∨ j = 4) with rfl | rfl | rfl | rfl | rfl <;> rfl
 rw [this]
 exact hu⟩
end
end Go.Proofs.YtgeofijddhflaaaGreatDoor
set_option linter.unusedVariables false
set_option linter.unusedSimpArgs false
namespace Go.Proofs.YtgeofijddhflaaaGreatDoor
open Go.RowKit Go.Maps Oct
def OpenTo (w : World) (base g m : Nat) (es : List (Nm × FE)) (r : Int × Option JnP × DkD) (e : Ending) (w' : World) : Prop :=
 ∃ es', DiskAt w' base g m r.2.2.pw r.2.2.room es' ∧ sec FE.f es' = r.2.2.fs ∧ Fr (DFoot g m es) w w' ∧ (∀ k, DFoot g m es' k → DFoot g m es k ∨ w.heap.size ≤ k) ∧
  match r.2.1 with
  | none => e = .returned (.tuple #[.pointer none, .int .i64 r.1])
  | some j => ∃ (gj : Nat) (F : Nat → Prop), e = .returned (.tuple #[.pointer (some ⟨gj, 0, none⟩), .int .i64 r.1]) ∧ w.heap.size ≤ gj ∧ JAt w' F gj g j ∧ ∀ k, F k → w.heap.size ≤ k ∧ k < w'.heap.size ∧ k ≠ gj ∧ ¬ DFoot g m es' k
theorem OpS.endNone {w wx : World} {base g m bd gj : Nat} {es es' : List (Nm × FE)} {d : DkD} {t v : Int} {sv : Value} {bad : Int} (h : OpS w base g m es bd gj d t v sv bad wx es') (c : Int) {r : Int × Option JnP × DkD} (hr : r = (c, none, d)) : OpenTo w base g m es r (.returned (.tuple #[.pointer none, .int .i64 c])) wx := by
 subst hr
 exact ⟨es', h.disk, h.fs, h.fr, h.grow, rfl⟩
def restLast (l : List (SegP × Bool)) (m : Int × Int) (d : DkD) : Int × Option JnP × DkD := match l.getLast? with
 | none => openSegs l m d
 | some f => if f.1.ends.isEmpty = true then (if (d.remove (jName f.1.k)).1 = 0 then openSegs l.dropLast m (d.remove (jName f.1.k)).2 else ((d.remove (jName f.1.k)).1, none, (d.remove (jName f.1.k)).2)) else openSegs l m d
def restOf : Option (Int × Int) → Option (List (SegP × Bool)) → DkD → Int × Option JnP × DkD
 | some m, some l, d => restLast l m d
 | _, _, d => (53, none, d)
theorem openRest_eq (d : DkD) : openRest d = restOf (readMetaS d) (listJ d) d := by
 unfold openRest restOf restLast
 cases readMetaS d <;> cases listJ d <;> rfl
structure RecOk (q : FndR) : Prop where
 ok : SegOk q.s
 first : 1 ≤ q.s.first
 k : 1 ≤ q.s.k ∧ q.s.k ≤ 999999999
 txt : ∀ e ∈ q.s.l, e.b.length ≤ 65535
 len : q.s.l.length ≤ 1000000000
theorem recs_ok {l : List (SegP × Bool)} {recs : List FndR} (hmap : recs.map FndR.o = l) (h : (∀ y ∈ l, SegB y.1 ∧ (1 ≤ y.1.k ∧ y.1.k ≤ 999999999) ∧ (y.1.ends = [] ∧ y.1.l = [] ∨ SegOk y.1 ∧ 1 ≤ y.1.first) ∧ (∀ e ∈ y.1.l, e.b.length ≤ 65535) ∧ y.1.l.length ≤ 1000000000) ∧ listOk l = true) :
  (∀ i (h : i + 1 < recs.length), RecOk recs[i]) ∧ ∀ q ∈ recs, q.s.ends ≠ [] → RecOk q := by
 subst hmap
 have hq : ∀ q ∈ recs, q.s.ends ≠ [] → RecOk q := fun q hq hne => by
  obtain ⟨h1, h2, h3, h4, h5⟩ := h.1 q.o (List.mem_map.2 ⟨q, hq, rfl⟩)
  rcases h3 with h3 | h3
  ·exact absurd h3.1 hne
  ·exact ⟨h3.1, h3.2, h2, h4, h5⟩
 refine ⟨fun i hi => hq _ (List.getElem_mem (by omega)) ?_, hq⟩
 have h1 := (listOk_iff _).1 h.2 i (by rw [List.length_map]; exact hi)
 simp only [List.getElem_map] at h1
 exact h1.2.2
theorem restLast_snoc (r : List FndR) (q : FndR) (m : Int × Int) (d : DkD) : restLast ((r ++ [q]).map FndR.o) m d = if q.s.ends.isEmpty = true then (if (d.remove (jName q.s.k)).1 = 0 then openSegs (r.map FndR.o) m (d.remove (jName q.s.k)).2 else ((d.remove (jName q.s.k)).1, none, (d.remove (jName q.s.k)).2)) else openSegs ((r ++ [q]).map FndR.o) m d := by
 unfold restLast
 rw [List.map_append, List.map_cons, List.map_nil, List.getLast?_append]
 simp only [List.getLast?_singleton, Option.some_or, List.dropLast_concat]
 rfl
theorem runJ_one (a : JAct) (d : DkD) : runJ [a] d = a.run d := by
 unfold runJ
 by_cases h0 : (a.run d).1 = 0
 ·rw [if_pos h0]
  exact Prod.ext h0.symm rfl
 ·rw [if_neg h0]
theorem blk_cells_at0 {w : World} {g : Nat} {T : TypeId} {cs : Array Value} (h : Blk w g T cs) (j : Nat) (u : Value) (hu : cs.toList[j]? = some u) : w.cell? ⟨g, j, none⟩ = some u := (h.cell j).trans (by rw [← Array.getElem?_toList]; exact hu)
theorem OpS.grown {w wx wy : World} {base g m bd gj : Nat} {es es' : List (Nm × FE)} {d : DkD} {t v : Int} {sv : Value} {bad : Int} (h : OpS w base g m es bd gj d t v sv bad wx es') {row : Option Nat} (hg : wx.grownBy wy row) (hr : ∀ k, row = some k → k ≠ gj ∧ k ≠ bd ∧ ¬ DFoot g m es' k ∧ w.heap.size ≤ k) : OpS w base g m es bd gj d t v sv bad wy es' :=
 ⟨h.disk.keep hg.size (fun k hk => hg.block k (h.disk.lt k hk).2 (fun e => (hr k e.symm).2.2.1 hk)), h.fs, h.jb.grown hg (fun e => (hr gj e.symm).1 rfl), h.bx.grown hg (fun e => (hr bd e.symm).2.1 rfl), h.fr.trans (Fr.of_grown (mine := fun k => row = some k) hg (fun k e => e)) (fun j hj => .inr (hr j hj).2.2.2), h.grow, h.lo⟩
def ptrA (A : Option Addr) (q : Nat) : Value := .pointer (some ⟨(A.map Addr.block).getD 0, q * 6, none⟩)
def ptrs (A : Option Addr) (st n : Nat) : List Value := (List.range' st (n - st)).map (ptrA A)
theorem ptrs_snoc (A : Option Addr) {st k : Nat} (h : st ≤ k) : ptrs A st (k + 1) = ptrs A st k ++ [ptrA A k] := by
 unfold ptrs
 rw [show k + 1 - st = (k - st) + 1 by omega, List.range'_1_concat, List.map_append, show st + (k - st) = k by omega]
 rfl
theorem ptrs_len (A : Option Addr) (st k : Nat) : (ptrs A st k).length = k - st := by unfold ptrs; simp
theorem run_goes {sl : List SegP} {k st : Nat} (hk : k < sl.length) (hst0 : 0 < k → st < k) (h : lastRun [] (sl.take k) = (sl.take k).drop st) (hst : st ≤ k) (hg : ∀ h0 : 0 < k, sl[k].goesOn (sl[k - 1]'(by omega)) = true) : lastRun [] (sl.take (k + 1)) = (sl.take (k + 1)).drop st := by
 have htk : sl.take (k + 1) = sl.take k ++ [sl[k]] := by rw [List.take_add_one, List.getElem?_eq_getElem hk]; rfl
 rw [htk, lastRun_snoc, h]
 unfold runStep
 rcases Nat.eq_zero_or_pos k with h0 | h0
 ·subst h0
  obtain rfl : st = 0 := by omega
  simp
 ·have hl : ((sl.take k).drop st).getLast? = some (sl[k - 1]'(by omega)) := by
   rw [List.getLast?_drop, if_neg (by rw [List.length_take]; have := hst0 h0; omega), List.getLast?_eq_getElem?, List.length_take, Nat.min_eq_left (by omega), List.getElem?_take_of_lt (by omega), List.getElem?_eq_getElem (by omega)]
  rw [hl]
  simp only
  rw [if_pos (hg h0), List.drop_append_of_le_length (by rw [List.length_take]; omega)]
theorem run_new {sl : List SegP} {k st : Nat} (hk : k < sl.length) (h0 : 0 < k) (hst0 : 0 < k → st < k) (h : lastRun [] (sl.take k) = (sl.take k).drop st) (hg : sl[k].goesOn (sl[k - 1]'(by omega)) = false) : lastRun [] (sl.take (k + 1)) = (sl.take (k + 1)).drop k := by
 have htk : sl.take (k + 1) = sl.take k ++ [sl[k]] := by rw [List.take_add_one, List.getElem?_eq_getElem hk]; rfl
 rw [htk, lastRun_snoc, h]
 unfold runStep
 have hl : ((sl.take k).drop st).getLast? = some (sl[k - 1]'(by omega)) := by
  rw [List.getLast?_drop, if_neg (by rw [List.length_take]; have := hst0 h0; omega), List.getLast?_eq_getElem?, List.length_take, Nat.min_eq_left (by omega), List.getElem?_take_of_lt (by omega), List.getElem?_eq_getElem (by omega)]
 rw [hl]
 simp only
 rw [if_neg (by rw [hg]; simp), List.drop_append_of_le_length (by rw [List.length_take]; omega), List.drop_eq_nil_of_le (by rw [List.length_take]; omega)]
 rfl
def EF (bd lo hi nE : Nat) (W : World) (x : Nat) : Prop := x = bd ∨ (lo ≤ x ∧ x < hi) ∨ (nE ≤ x ∧ x < W.heap.size ∧ ∀ cs fz, W.heap[x]? ≠ some (.cells cs 98 fz))
theorem EF.same {bd lo hi nE : Nat} {W W' : World} {row : Option Nat} (hg : W.grownBy W' row) (hlt : bd < nE ∧ hi ≤ nE ∧ nE ≤ W.heap.size) (hr : ∀ r, row = some r → nE ≤ r ∧ ∃ cs fz, W.heap[r]? = some (.cells cs 98 fz)) : (∀ x, EF bd lo hi nE W x → W'.heap[x]? = W.heap[x]?) ∧ ∀ x, EF bd lo hi nE W x → EF bd lo hi nE W' x := by
 have h1 : ∀ x, EF bd lo hi nE W x → W'.heap[x]? = W.heap[x]? := fun x hx => by
  have hs : x < W.heap.size := by
   rcases hx with h | h | h
   ·omega
   ·omega
   ·exact h.2.1
  refine hg.block x hs fun e => ?_
  obtain ⟨h2, cs, fz, h3⟩ := hr x e.symm
  rcases hx with h | h | h
  ·omega
  ·omega
  ·exact h.2.2 cs fz h3
 refine ⟨h1, fun x hx => ?_⟩
 rcases hx with h | h | h
 ·exact .inl h
 ·exact .inr (.inl h)
 ·refine .inr (.inr ⟨h.1, by have := hg.size; omega, fun cs fz => ?_⟩)
  rw [h1 x (.inr (.inr h))]
  exact h.2.2 cs fz
theorem EF.below {bd lo hi nE : Nat} {W W' : World} (hb : Below W.heap.size W W') (hlt : bd < nE ∧ hi ≤ nE ∧ nE ≤ W.heap.size) : (∀ x, EF bd lo hi nE W x → W'.heap[x]? = W.heap[x]?) ∧ ∀ x, EF bd lo hi nE W x → EF bd lo hi nE W' x :=
 EF.same (grown_of_below hb none) hlt (fun r h => by cases h)
structure ActsR (W : World) (bd lo hi nE gj g : Nat) (dv : Value) (vs : List Value) (al : List JAct) : Prop where
 own : Own W nE 98 dv vs
 len : vs.length = al.length
 acts : ∀ i (h : i < vs.length) (h' : i < al.length), JActV W (EF bd lo hi nE W) gj g vs[i] al[i]
 fns : ∀ v ∈ vs, v.oneCell' = true
section
variable {W W' : World} {bd lo hi nE gj g : Nat} {dv : Value} {vs : List Value} {al : List JAct}
theorem ActsR.nil : ActsR W bd lo hi nE gj g (.slice none 0 0) [] [] := ⟨Own.nil _ _ _, rfl, fun i h => by simp at h, fun v hv => by cases hv⟩
theorem ActsR.below (h : ActsR W bd lo hi nE gj g dv vs al) (hb : Below W.heap.size W W') (hlt : bd < nE ∧ hi ≤ nE ∧ nE ≤ W.heap.size) : ActsR W' bd lo hi nE gj g dv vs al := by
 obtain ⟨h1, h2⟩ := EF.below (bd := bd) (lo := lo) (hi := hi) (nE := nE) hb hlt
 exact ⟨Own.below h.own hb (Nat.le_refl _), h.len, fun i h3 h4 => ((h.acts i h3 h4).keep hb.size h1).mono h2, h.fns⟩
theorem ActsR.push {W2 : World} {v dv' : Value} {a : JAct} (h : ActsR W bd lo hi nE gj g dv vs al) (hlt : bd < nE ∧ hi ≤ nE ∧ nE ≤ W.heap.size) (ha : JActV W (EF bd lo hi nE W) gj g v a) (h1 : v.oneCell' = true) (hg : W.grownBy W2 dv.ownBlock) (hown : Own W2 nE 98 dv' (vs ++ [v])) : ActsR W2 bd lo hi nE gj g dv' (vs ++ [v]) (al ++ [a]) := by
 obtain ⟨k1, k2⟩ := EF.same (bd := bd) (lo := lo) (hi := hi) (nE := nE) hg hlt (fun r e => by
  obtain ⟨cs, hc⟩ := ownsRow_held h.own e
  exact ⟨(h.own.lt r e).1, cs, _, hc⟩)
 refine ⟨hown, by rw [List.length_append, List.length_append, h.len]; rfl, fun i h3 h4 => ?_, fun x hx => ?_⟩
 ·by_cases hi : i < vs.length
  ·rw [List.getElem_append_left hi, List.getElem_append_left (by rw [← h.len]; exact hi)]
   exact ((h.acts i hi _).keep hg.size k1).mono k2
  ·have e : i = vs.length := by rw [List.length_append] at h3; simp at h3; omega
   subst e
   have e2 : (al ++ [a])[vs.length] = a := by simp [h.len]
   rw [e2]
   simp only [List.getElem_concat_length]
   exact (ha.keep hg.size k1).mono k2
 ·rcases List.mem_append.1 hx with hx | hx
  ·exact h.fns x hx
  ·obtain rfl := List.mem_singleton.1 hx
   exact h1
end
theorem jacts_one {w w2 w3 : World} {base g m bd gj : Nat} {es es' : List (Nm × FE)} {d : DkD} {t v : Int} {sv : Value} (hO : OpS w base g m es bd gj d t v sv 0 w2 es') (hb3 : Below w2.heap.size w2 w3) (a : JAct) (F3 : Nat) (caps3 : Array Value) (hact : ∀ E : Nat → Prop, (∀ k, w2.heap.size ≤ k → k < w3.heap.size → E k) → JActV w3 E gj g (.func (.func F3) #[] caps3) a)
  (hlow : ∀ k, DFoot g m es k → base ≤ k) (hbw : base ≤ w.heap.size) (hE : ∀ w', Below base w w' → Tab w' ∧ ErrR w') {L : Nat} (hok : JDk L d) (hL : L + a.cost ≤ 137438953472) :
  Calls Tryz.prog 48 #[.pointer (some ⟨gj, 0, none⟩), .slice (some ⟨w3.heap.size, 0, none⟩) 1 1] (w3.alloc (.cells #[.func (.func F3) #[] caps3] 98)) fun e w' => e = .returned (.int .i64 (a.run d).1) ∧ ∃ es2, OpS w base g m es bd gj (a.run d).2 t v sv (a.run d).1 w' es2 ∧ (∀ k, DFoot g m es2 k → DFoot g m es' k ∨ w3.heap.size < k) ∧ Fr (fun k => DFoot g m es' k ∨ k = gj) w2 w' := by
 have hs3 := hb3.size
 have hbA : Below w2.heap.size w2 (w3.alloc (.cells #[.func (.func F3) #[] caps3] 98)) := hb3.alloc hb3.size _
 have hO3 := hO.below hbA
 have hrow : RdF (w3.alloc (.cells #[.func (.func F3) #[] caps3] 98)) (fun k => w2.heap.size ≤ k ∧ k < w3.heap.size + 1) (some ⟨w3.heap.size, 0, none⟩) [.func (.func F3) #[] caps3] := fun _ => ⟨w3.heap.size, 0, rfl, ⟨hs3, by omega⟩, by simp, fun j u hu => by
  rw [Nat.zero_add]
  exact blk_cells_at0 (Blk.new w3 98 #[.func (.func F3) #[] caps3]) j u hu⟩
 have hav : ∀ k (h : k < [Value.func (.func F3) #[] caps3].length) (h' : k < [a].length), JActV (w3.alloc (.cells #[.func (.func F3) #[] caps3] 98)) (fun k => w2.heap.size ≤ k ∧ k < w3.heap.size + 1) gj g [Value.func (.func F3) #[] caps3][k] [a][k] := fun k h h' => by
  obtain rfl : k = 0 := by simp at h; exact h
  have hbw3 := (Below.refl w3.heap.size w3).alloc (Nat.le_refl _) (.cells #[.func (.func F3) #[] caps3] 98)
  exact ((hact (fun k => w2.heap.size ≤ k ∧ k < w3.heap.size) (fun k h1 h2 => ⟨h1, h2⟩)).keep hbw3.size (fun k hk => hbw3.block k hk.2)).mono (fun k hk => ⟨hk.1, by omega⟩)
 have hlo := hO.lo
 have hAC := jacts_any hO3.disk hO3.jb (by omega) (some ⟨w3.heap.size, 0, none⟩) [.func (.func F3) #[] caps3] [a] 1 hrow rfl hav (fun k hk => ⟨by simp; omega, fun hf => by have := (hO.disk.lt k hf).2; omega, by have := hO.jb.lt; omega⟩) (fun w' hb' => (hE w' ((hO3.baseB hlow hbw).trans hb')).1) (L := L) (by rw [DkD.eta' d hO.fs]; exact hok) (by rw [costs_cons]; show L + (a.cost + 0) ≤ _; omega) (by simp)
 rw [DkD.eta' d hO.fs, runJ_one] at hAC
 refine hAC.mono ?_
 rintro e w4 ⟨rfl, hJT⟩
 obtain ⟨es2, h1, h2, h3⟩ := hO3.acts hJT
 refine ⟨rfl, es2, h1, fun k hk => ?_, (Fr.of_below (fun k => DFoot g m es' k ∨ k = gj) hbA).trans h3 (fun j hj => .inl hj)⟩
 rcases h2 k hk with h4 | h4
 ·exact .inl h4
 ·refine .inr ?_
  simp at h4
  omega
end Go.Proofs.YtgeofijddhflaaaGreatDoor
set_option linter.unusedVariables false
set_option linter.unusedSimpArgs false
namespace Go.Proofs.YtgeofijddhflaaaGreatDoor
open Go.RowKit Go.Maps Oct
theorem readMetaS_num {d : DkD} {t v : Int} (h : readMetaS d = some (t, v)) : (-9223372036854775808 ≤ t ∧ t ≤ 9223372036854775807) ∧ (-9223372036854775808 ≤ v ∧ v ≤ 9223372036854775807) := by
 unfold readMetaS at h
 split at h
 split at h
 ·injection h with h
  injection h with h1 h2
  omega
 ·split at h
  ·cases h
  ·split at h
   ·rename_i t' v' h1
    injection h with h
    injection h with h2 h3
    subst h2 h3
    have k := takeN_vals 2 _ _ _ h1
    have k1 := k t' (by simp)
    have k2 := k v' (by simp)
    omega
   ·cases h
def tailJ (recs : List FndR) : List JAct := match recs.getLast? with
 | none => []
 | some q => (if q.tn = true then [.cut (jName q.s.k) q.s.long] else []) ++ [.sync (jName q.s.k)]
theorem openSegs_eq (recs : List FndR) (m : Int × Int) (d : DkD) {st : Nat} (hst : st ≤ recs.length) (h : lastRun [] (recs.map FndR.s) = (recs.map FndR.s).drop st) {r : Int × DkD} (hr : r = runJ ((recs.take st).map (fun q => JAct.rm (jName q.s.k)) ++ tailJ recs) d) :
  openSegs (recs.map FndR.o) m d = (r.1, if r.1 = 0 then some ⟨m.1, m.2, (recs.map FndR.s).drop st, 0⟩ else none, r.2) := by
 subst hr
 have h1 : (recs.map FndR.o).map (·.1) = recs.map FndR.s := by rw [List.map_map]; rfl
 have h2 : (recs.map FndR.o).getLast? = recs.getLast?.map FndR.o := List.getLast?_map
 have h3 : (recs.map FndR.o).length - ((recs.map FndR.s).drop st).length = st := by
  rw [List.length_map, List.length_drop, List.length_map]
  omega
 have h4 : ((recs.map FndR.o).take st).map (fun f => JAct.rm (jName f.1.k)) = (recs.take st).map (fun q => JAct.rm (jName q.s.k)) := by
  rw [← List.map_take, List.map_map]
  rfl
 unfold openSegs
 simp only [h1, h]
 rw [h3, h4, h2]
 unfold tailJ
 cases recs.getLast? <;> rfl
theorem tailJ_snoc (r : List FndR) (q : FndR) : tailJ (r ++ [q]) = (if q.tn = true then [.cut (jName q.s.k) q.s.long] else []) ++ [.sync (jName q.s.k)] := by
 unfold tailJ
 rw [List.getLast?_append]
 simp
theorem costs_none : ∀ {l : List JAct}, (∀ a ∈ l, a.cost = 0) → costs l = 0
 | [], _ => rfl
 | a :: r, h => by
  rw [costs_cons, h a (List.mem_cons_self ..), costs_none (fun b hb => h b (List.mem_cons_of_mem _ hb))]
theorem tail_cost (l recs : List FndR) : costs (l.map (fun q => JAct.rm (jName q.s.k)) ++ tailJ recs) = 0 := by
 refine costs_none fun a ha => ?_
 rcases List.mem_append.1 ha with ha | ha
 ·obtain ⟨q, _, rfl⟩ := List.mem_map.1 ha
  rfl
 ·unfold tailJ at ha
  split at ha
  ·cases ha
  ·rcases List.mem_append.1 ha with ha | ha
   ·split at ha
    ·rw [List.mem_singleton.1 ha]; rfl
    ·cases ha
   ·rw [List.mem_singleton.1 ha]; rfl
theorem tail_len (recs : List FndR) : (tailJ recs).length ≤ 2 := by
 unfold tailJ
 split
 ·simp
 ·rw [List.length_append]
  split <;> simp
theorem LstAt.box {W : World} {F E : Nat → Prop} {A : Option Addr} {recs : List FndR} (h : LstAt W F A recs) {i : Nat} (hi : i < recs.length) {q : FndR} (hq : q = recs[i]) {b : Nat} (hb : Blk W b 106 #[.int .i64 q.s.k, .int .i64 q.s.first, .int .i64 q.s.term, .slice q.al q.rs.length q.cl, .slice q.ae q.s.ends.length q.ce, .bool q.tn]) (hE : ∀ k, F k → E k) (hEb : E b) : SegRd W E ⟨b, 0, none⟩ q.s := by
 obtain ⟨gr, rfl, hFg, hgl, hc⟩ := h.addr (by omega)
 obtain ⟨hS, hcl⟩ := hc i hi
 rw [← hq] at hS hcl
 obtain ⟨⟨Al, cl, rs, Ae, ce, h1, h2, h3, h4, h5, h6, h7, h8, h9⟩, hn⟩ := hS
 obtain ⟨b0, o0, e, _, _, h10⟩ := h1 (by simp)
 injection e with e
 injection e with e1 e2 _
 subst e1 e2
 have k3 := h10 3 _ rfl
 rw [hcl 3 _ rfl] at k3
 injection k3 with k3
 have k4 := h10 4 _ rfl
 rw [hcl 4 _ rfl] at k4
 injection k4 with k4
 unfold FndR.vl at k3
 unfold FndR.ve at k4
 refine ⟨⟨Al, cl, rs, Ae, ce, fun _ => ⟨b, 0, rfl, hEb, hb.lt, fun j u hu => ?_⟩, h2, h3, h4, h5, h6.mono hE, h7, fun x hx => (h8 x hx).mono hE, h9.mono hE⟩, hn⟩
 rw [Nat.zero_add]
 rw [k3, k4] at hb
 refine blk_cells_at0 hb j u ?_
 have hj := (List.getElem?_eq_some_iff.1 hu).1
 rw [← hu]
 simp only [List.length_cons, List.length_nil] at hj
 rcases (by omega : j = 0 ∨ j = 1 ∨ j = 2 ∨ j = 3 ∨ j = 4) with rfl | rfl | rfl | rfl | rfl <;> rfl
theorem RecOk.segM {w : World} {F : Nat → Prop} {ad : Addr} {q : FndR} (h : RecOk q) (hs : SegRd w F ad q.s) : SegM w F ad q.s := ⟨hs, h.ok.ends, by have := h.len; omega, h.txt⟩
theorem OpS.endSome {w wy : World} {base g m bd gj : Nat} {es es3 : List (Nm × FE)} {d3 : DkD} {mt mv : Int} {As Al : Option Addr} {cs : Nat} {F1 F2 : Nat → Prop} {recs : List FndR} {st ls : Nat} (h : OpS w base g m es bd gj d3 mt mv (.slice As ls cs) 0 wy es3) (hL : LstAt wy F1 Al recs) (hst : st ≤ recs.length) (hls : ls = recs.length - st) (hcs : ls ≤ cs ∧ cs ≤ maxLen) (hR : RdF wy F2 As (ptrs Al st recs.length)) (hok : ∀ q ∈ recs, RecOk q) (hn : recs.length ≤ 1000000000)
  (hnum : (-9223372036854775808 ≤ mt ∧ mt ≤ 9223372036854775807) ∧ (-9223372036854775808 ≤ mv ∧ mv ≤ 9223372036854775807)) (hF : ∀ k, F1 k ∨ F2 k → w.heap.size ≤ k ∧ k < wy.heap.size ∧ k ≠ gj ∧ ¬ DFoot g m es3 k) {r : Int × Option JnP × DkD} (hr : r = (0, some ⟨mt, mv, (recs.map FndR.s).drop st, 0⟩, d3)) :
  OpenTo w base g m es r (.returned (.tuple #[.pointer (some ⟨gj, 0, none⟩), .int .i64 0])) wy := by
 subst hr
 have hsl : ((recs.map FndR.s).drop st).length = ls := by rw [List.length_drop, List.length_map, hls]
 have hlo := h.lo
 refine ⟨es3, h.disk, h.fs, h.fr, h.grow, gj, fun k => F1 k ∨ F2 k, rfl, by omega, ?_, hF⟩
 refine ⟨?_, by show ((recs.map FndR.s).drop st).length ≤ _; omega, hnum⟩
 refine ⟨As, cs, (List.range' st (recs.length - st)).map (fun q => ⟨(Al.map Addr.block).getD 0, q * 6, none⟩), ?_, ?_, ?_, ?_, ?_⟩
 ·show Blk wy gj _ #[.int .i64 mt, .int .i64 mv, .slice As ((recs.map FndR.s).drop st).length cs, _, _]
  rw [hsl]
  exact h.jb
 ·show ((recs.map FndR.s).drop st).length ≤ cs ∧ _
  rw [hsl]
  exact hcs
 ·have e : (List.map (fun q => (⟨(Al.map Addr.block).getD 0, q * 6, none⟩ : Addr)) (List.range' st (recs.length - st))).map (fun a => Value.pointer (some a)) = ptrs Al st recs.length := by
   unfold ptrs ptrA
   rw [List.map_map]
   rfl
  rw [e]
  exact hR.mono (fun k hk => .inr hk)
 ·show _ = ((recs.map FndR.s).drop st).length
  rw [hsl, hls]
  simp
 ·intro i hi hi'
  have hi2 : i < recs.length - st := by simpa using hi
  obtain ⟨gr, rfl, hFg, hgl, hc⟩ := hL.addr (by omega)
  have e1 : ((recs.map FndR.s).drop st)[i]'hi' = (recs[st + i]'(by omega)).s := by
   rw [List.getElem_drop, List.getElem_map]
  show SegM wy _ _ (((recs.map FndR.s).drop st)[i]'hi')
  rw [e1]
  simp only [List.getElem_map, List.getElem_range', Nat.one_mul]
  exact (hok _ (List.getElem_mem _)).segM ((hc (st + i) (by omega)).1.mono (fun k hk => .inl hk))
theorem EF.fresh {bd lo hi nE : Nat} {W : World} {b : Nat} {T : TypeId} {cs : Array Value} (hb : Blk W b T cs) (h1 : nE ≤ b) (hT : T ≠ 98) : EF bd lo hi nE W b := .inr (.inr ⟨h1, hb.lt, fun cs' fz e => by
 have e2 := e.symm.trans hb
 injection e2 with e2
 injection e2 with _ e2 _
 exact hT e2.symm⟩)
end Go.Proofs.YtgeofijddhflaaaGreatDoor
set_option linter.unusedVariables false
set_option linter.unusedSimpArgs false
namespace Go.Proofs.YtgeofijddhflaaaGreatDoor
open Go.RowKit Go.Maps Oct
def EG (G : Nat → Prop) (nE : Nat) (W : World) (x : Nat) : Prop := G x ∨ (nE ≤ x ∧ x < W.heap.size ∧ ∀ cs fz, W.heap[x]? ≠ some (.cells cs 98 fz))
theorem EG.same {G : Nat → Prop} {nE : Nat} {W W' : World} {row : Option Nat} (hg : W.grownBy W' row) (hlt : (∀ x, G x → x < nE) ∧ nE ≤ W.heap.size) (hr : ∀ r, row = some r → nE ≤ r ∧ ∃ cs fz, W.heap[r]? = some (.cells cs 98 fz)) : (∀ x, EG G nE W x → W'.heap[x]? = W.heap[x]?) ∧ ∀ x, EG G nE W x → EG G nE W' x := by
 have h1 : ∀ x, EG G nE W x → W'.heap[x]? = W.heap[x]? := fun x hx => by
  have hs : x < W.heap.size := by
   rcases hx with h | h
   ·have := hlt.1 x h; have := hlt.2; omega
   ·exact h.2.1
  refine hg.block x hs fun e => ?_
  obtain ⟨h2, cs, fz, h3⟩ := hr x e.symm
  rcases hx with h | h
  ·have := hlt.1 x h; omega
  ·exact h.2.2 cs fz h3
 refine ⟨h1, fun x hx => ?_⟩
 rcases hx with h | h
 ·exact .inl h
 ·refine .inr ⟨h.1, by have := hg.size; omega, fun cs fz => ?_⟩
  rw [h1 x (.inr h)]
  exact h.2.2 cs fz
theorem EG.below {G : Nat → Prop} {nE : Nat} {W W' : World} (hb : Below W.heap.size W W') (hlt : (∀ x, G x → x < nE) ∧ nE ≤ W.heap.size) : (∀ x, EG G nE W x → W'.heap[x]? = W.heap[x]?) ∧ ∀ x, EG G nE W x → EG G nE W' x :=
 EG.same (grown_of_below hb none) hlt (fun r h => by cases h)
theorem EG.fresh {G : Nat → Prop} {nE : Nat} {W : World} {b : Nat} {T : TypeId} {cs : Array Value} (hb : Blk W b T cs) (h1 : nE ≤ b) (hT : T ≠ 98) : EG G nE W b := .inr ⟨h1, hb.lt, fun cs' fz e => by
 have e2 := e.symm.trans hb
 injection e2 with e2
 injection e2 with _ e2 _
 exact hT e2.symm⟩
structure ActsG (W : World) (G : Nat → Prop) (nE gj g : Nat) (dv : Value) (vs : List Value) (al : List JAct) : Prop where
 own : Own W nE 98 dv vs
 len : vs.length = al.length
 acts : ∀ i (h : i < vs.length) (h' : i < al.length), JActV W (EG G nE W) gj g vs[i] al[i]
 fns : ∀ v ∈ vs, v.oneCell' = true
section
variable {W W' : World} {G : Nat → Prop} {nE gj g : Nat} {dv : Value} {vs : List Value} {al : List JAct}
theorem ActsG.nil : ActsG W G nE gj g (.slice none 0 0) [] [] := ⟨Own.nil _ _ _, rfl, fun i h => by simp at h, fun v hv => by cases hv⟩
theorem ActsG.below (h : ActsG W G nE gj g dv vs al) (hb : Below W.heap.size W W') (hlt : (∀ x, G x → x < nE) ∧ nE ≤ W.heap.size) : ActsG W' G nE gj g dv vs al := by
 obtain ⟨h1, h2⟩ := EG.below (G := G) (nE := nE) hb hlt
 exact ⟨Own.below h.own hb (Nat.le_refl _), h.len, fun i h3 h4 => ((h.acts i h3 h4).keep hb.size h1).mono h2, h.fns⟩
theorem ActsG.other {row : Option Nat} (h : ActsG W G nE gj g dv vs al) (hg : W.grownBy W' row) (hlt : (∀ x, G x → x < nE) ∧ nE ≤ W.heap.size) (hr : ∀ r, row = some r → nE ≤ r) (hne : dv.ownBlock = none ∨ dv.ownBlock ≠ row) (hE : ∀ i (h : i < vs.length) (h' : i < al.length), JActV W (fun x => EG G nE W x ∧ row ≠ some x) gj g vs[i] al[i]) : ActsG W' G nE gj g dv vs al := by
 have h1 : ∀ x, EG G nE W x ∧ row ≠ some x → W'.heap[x]? = W.heap[x]? := fun x hx => by
  have hs : x < W.heap.size := by
   rcases hx.1 with h | h
   ·have := hlt.1 x h; have := hlt.2; omega
   ·exact h.2.1
  exact hg.block x hs fun e => hx.2 e.symm
 refine ⟨Own.kept h.own hg hne, h.len, fun i h3 h4 => ((hE i h3 h4).keep hg.size h1).mono fun x hx => ?_, h.fns⟩
 rcases hx.1 with h | h
 ·exact .inl h
 ·refine .inr ⟨h.1, by have := hg.size; omega, fun cs fz => ?_⟩
  rw [h1 x hx]
  exact h.2.2 cs fz
theorem ActsG.push {W2 : World} {v dv' : Value} {a : JAct} (h : ActsG W G nE gj g dv vs al) (hlt : (∀ x, G x → x < nE) ∧ nE ≤ W.heap.size) (ha : JActV W (EG G nE W) gj g v a) (h1 : v.oneCell' = true) (hg : W.grownBy W2 dv.ownBlock) (hown : Own W2 nE 98 dv' (vs ++ [v])) : ActsG W2 G nE gj g dv' (vs ++ [v]) (al ++ [a]) := by
 obtain ⟨k1, k2⟩ := EG.same (G := G) (nE := nE) hg hlt (fun r e => by
  obtain ⟨cs, hc⟩ := ownsRow_held h.own e
  exact ⟨(h.own.lt r e).1, cs, _, hc⟩)
 refine ⟨hown, by rw [List.length_append, List.length_append, h.len]; rfl, fun i h3 h4 => ?_, fun x hx => ?_⟩
 ·by_cases hi : i < vs.length
  ·rw [List.getElem_append_left hi, List.getElem_append_left (by rw [← h.len]; exact hi)]
   exact ((h.acts i hi _).keep hg.size k1).mono k2
  ·have e : i = vs.length := by rw [List.length_append] at h3; simp at h3; omega
   subst e
   have e2 : (al ++ [a])[vs.length] = a := by simp [h.len]
   rw [e2]
   simp only [List.getElem_concat_length]
   exact (ha.keep hg.size k1).mono k2
 ·rcases List.mem_append.1 hx with hx | hx
  ·exact h.fns x hx
  ·obtain rfl := List.mem_singleton.1 hx
   exact h1
end
theorem ActsG.pushes {W W2 : World} {G : Nat → Prop} {nE gj g : Nat} {dv dv' : Value} {vs us : List Value} {al bl : List JAct} (h : ActsG W G nE gj g dv vs al) (hlt : (∀ x, G x → x < nE) ∧ nE ≤ W.heap.size) (hul : us.length = bl.length) (ha : ∀ i (h : i < us.length) (h' : i < bl.length), JActV W (EG G nE W) gj g us[i] bl[i]) (h1 : ∀ u ∈ us, u.oneCell' = true) (hg : W.grownBy W2 dv.ownBlock) (hown : Own W2 nE 98 dv' (vs ++ us)) : ActsG W2 G nE gj g dv' (vs ++ us) (al ++ bl) := by
 obtain ⟨k1, k2⟩ := EG.same (G := G) (nE := nE) hg hlt (fun r e => by
  obtain ⟨cs, hc⟩ := ownsRow_held h.own e
  exact ⟨(h.own.lt r e).1, cs, _, hc⟩)
 refine ⟨hown, by rw [List.length_append, List.length_append, h.len, hul], fun i h3 h4 => ?_, fun x hx => ?_⟩
 ·by_cases hi : i < vs.length
  ·rw [List.getElem_append_left hi, List.getElem_append_left (by rw [← h.len]; exact hi)]
   exact ((h.acts i hi _).keep hg.size k1).mono k2
  ·rw [List.getElem_append_right (by omega), List.getElem_append_right (by rw [← h.len]; omega)]
   have h5 : i - vs.length < us.length := by rw [List.length_append] at h3; omega
   have h6 := ha (i - vs.length) h5 (by omega)
   have e : i - al.length = i - vs.length := by rw [h.len]
   simp only [e]
   exact (h6.keep hg.size k1).mono k2
 ·rcases List.mem_append.1 hx with hx | hx
  ·exact h.fns x hx
  ·exact h1 x hx
theorem ActsG.row {W : World} {G : Nat → Prop} {nE gj g : Nat} {dv : Value} {vs : List Value} {al : List JAct} (h : ActsG W G nE gj g dv vs al) {r : Nat} (hr : dv.ownBlock = some r) : nE ≤ r ∧ r < W.heap.size ∧ ∃ cs fz, W.heap[r]? = some (.cells cs 98 fz) := by
 obtain ⟨cs, hc⟩ := ownsRow_held h.own hr
 exact ⟨(h.own.lt r hr).1, (h.own.lt r hr).2, cs, _, hc⟩
structure JnK (w : World) (base g m gj : Nat) (F : Nat → Prop) (d : DkD) (j : JnP) (es : List (Nm × FE)) : Prop where
 disk : DiskAt w base g m d.pw d.room es
 fs : sec FE.f es = d.fs
 jn : JAt w F gj g j
 apart : ∀ k, F k → base ≤ k ∧ k < w.heap.size ∧ k ≠ gj ∧ ¬ DFoot g m es k
 lo : base ≤ gj
def JnKTo (w : World) (base g m gj : Nat) (es : List (Nm × FE)) (F : Nat → Prop) (r : Int × JnP × DkD) (e : Ending) (w' : World) : Prop :=
 e = .returned (.int .i64 r.1) ∧ ∃ es' F', JnK w' base g m gj F' r.2.2 r.2.1 es' ∧ Fr (fun k => DFoot g m es k ∨ k = gj) w w' ∧ (∀ k, DFoot g m es' k → DFoot g m es k ∨ w.heap.size ≤ k) ∧ ∀ k, F' k → F k ∨ w.heap.size ≤ k
section
variable {w w' : World} {base g m gj : Nat} {F : Nat → Prop} {d : DkD} {j : JnP} {es : List (Nm × FE)}
theorem JAt.blk (h : JAt w F gj g j) : ∃ sv, Blk w gj 53 #[.int .i64 j.term, .int .i64 j.vote, sv, .pointer (some ⟨g, 0, none⟩), .int .i64 j.bad] := by
 obtain ⟨⟨A, c, ads, h1, _⟩, _⟩ := h
 exact ⟨_, h1⟩
theorem JnK.nj (h : JnK w base g m gj F d j es) : ¬ DFoot g m es gj := by
 obtain ⟨sv, hB⟩ := h.jn.blk
 exact h.disk.not_foot hB (by decide) (by decide) (by decide)
theorem JnK.below (h : JnK w base g m gj F d j es) (hb : Below w.heap.size w w') : JnK w' base g m gj F d j es :=
 ⟨h.disk.below hb, h.fs, h.jn.below (fun k hk => (h.apart k hk).2.1) hb, fun k hk => by have := h.apart k hk; have := hb.size; exact ⟨by omega, by omega, by omega, (h.apart k hk).2.2.2⟩, h.lo⟩
theorem JnK.same (h : JnK w base g m gj F d j es) (hb : Below w.heap.size w w') {r : Int × JnP × DkD} {c : Int} (hr : r = (c, j, d)) : JnKTo w base g m gj es F r (.returned (.int .i64 c)) w' := by
 subst hr
 exact ⟨rfl, es, F, h.below hb, Fr.of_below _ hb, fun k hk => .inl hk, fun k hk => .inl hk⟩
theorem JnK.acted {wy : World} {es2 : List (Nm × FE)} {d' : DkD} {j' : JnP} {F' : Nat → Prop} (h : JnK w base g m gj F d j es) (hfr : Fr (fun k => DFoot g m es k ∨ k = gj) w wy) (hD : DiskAt wy base g m d'.pw d'.room es2) (hs : sec FE.f es2 = d'.fs) (hgr : ∀ k, DFoot g m es2 k → DFoot g m es k ∨ w.heap.size ≤ k) (hJ : JAt wy F' gj g j') (hF : ∀ k, F' k → (F k ∨ w.heap.size ≤ k) ∧ k < wy.heap.size ∧ k ≠ gj ∧ ¬ DFoot g m es2 k) (hbw : base ≤ w.heap.size) {r : Int × JnP × DkD} {c : Int} (hr : r = (c, j', d')) : JnKTo w base g m gj es F r (.returned (.int .i64 c)) wy := by
 subst hr
 refine ⟨rfl, es2, F', ⟨hD, hs, hJ, fun k hk => ?_, h.lo⟩, hfr, hgr, fun k hk => (hF k hk).1⟩
 have h1 := hF k hk
 refine ⟨?_, h1.2⟩
 rcases h1.1 with h2 | h2
 ·exact (h.apart k h2).1
 ·omega
end
theorem JAt.turn {w : World} {F : Nat → Prop} {gj g : Nat} {j : JnP} (h : JAt w F gj g j) : ∃ sv, Blk w gj 53 #[.int .i64 j.term, .int .i64 j.vote, sv, .pointer (some ⟨g, 0, none⟩), .int .i64 j.bad] ∧
  ∀ (w' : World) (t v bad : Int), w.heap.size ≤ w'.heap.size → (∀ k, F k → w'.heap[k]? = w.heap[k]?) → Blk w' gj 53 #[.int .i64 t, .int .i64 v, sv, .pointer (some ⟨g, 0, none⟩), .int .i64 bad] → (-9223372036854775808 ≤ t ∧ t ≤ 9223372036854775807) → (-9223372036854775808 ≤ v ∧ v ≤ 9223372036854775807) → JAt w' F gj g ⟨t, v, j.segs, bad⟩ := by
 obtain ⟨⟨A, c, ads, h1, h2, h3, h4, h5⟩, h6, h7⟩ := h
 exact ⟨_, h1, fun w' t v bad hs hk hb ht hv => ⟨⟨A, c, ads, hb, h2, h3.keep hs hk, h4, fun i h h' => (h5 i h h').keep hs hk⟩, h6, ⟨ht, hv⟩⟩⟩
theorem Got.rdG {w : World} {base nE : Nat} {G : Nat → Prop} {A : Option Addr} {n c : Nat} {l : List UInt8} (h : Got w base (.slice A n c) l) (hb : nE ≤ base) : RdF w (EG G nE w) A (cells l) := fun h0 => by
 obtain ⟨A', c', hv, _, _, hr⟩ := h.shape
 injection hv with e1 _ _
 subst e1
 obtain ⟨ad, e, hlt, hc⟩ := hr h0
 rcases h.row with hr0 | ⟨g, n', cap, cur, hv2, hg, hB, _⟩
 ·injection hr0 with e2 _ _
  rw [e2] at e
  cases e
 ·injection hv2 with e2 _ _
  rw [e2] at e
  injection e with e
  subst e
  refine ⟨g, 0, e2, EG.fresh hB (by omega) (by decide), hB.lt, fun j u hu => ?_⟩
  rw [← add_lit]
  exact hc j u hu
theorem read_len {d : DkD} {n : Nm} : ((d.read n).1.length : Int) ≤ sizes d.fs := by
 unfold DkD.read
 split
 ·exact sizes_nonneg _
 ·split
  ·exact sizes_nonneg _
  ·rename_i f hf
   exact jsizes_mem (q := (n, f)) (asGet_some hf)
end Go.Proofs.YtgeofijddhflaaaGreatDoor
set_option linter.unusedVariables false
set_option linter.unusedSimpArgs false
namespace Go.Proofs.YtgeofijddhflaaaGreatDoor
open Go.RowKit Go.Maps Oct
structure SegW (w : World) (F : Nat → Prop) (B b : Nat) (s : SegP) (rs : List EntR) (vl ve : Value) : Prop where
 blk : Blk w b 104 #[.int .i64 s.k, .int .i64 s.first, .int .i64 s.term, vl, ve]
 low : B ≤ b
 ents : w.ownsRow B 65 4 vl rs.length (erCells rs)
 map : rs.map EntR.e = s.l
 dat : ∀ q ∈ rs, DatF w F q.v q.e.b
 ends : Own w B 3 ve (s.ends.map (Value.int .i64))
section
variable {w w' : World} {F F' : Nat → Prop} {B b : Nat} {s : SegP} {rs : List EntR} {vl ve : Value}
theorem SegW.keep (h : SegW w F B b s rs vl ve) (hs : w.heap.size ≤ w'.heap.size) (hk : ∀ k, F k → w'.heap[k]? = w.heap[k]?) {row : Option Nat} (hg : w.grownBy w' row) (hb : row ≠ some b) (hl : vl.ownBlock = none ∨ vl.ownBlock ≠ row) (he : ve.ownBlock = none ∨ ve.ownBlock ≠ row) : SegW w' F B b s rs vl ve :=
 ⟨h.blk.grown hg (fun e => hb e.symm), h.low, World.ownsRow.kept h.ents hg hl, h.map, fun q hq => (h.dat q hq).keep hs hk, Own.kept h.ends hg he⟩
theorem SegW.below (h : SegW w F B b s rs vl ve) (hF : ∀ k, F k → k < w.heap.size) (hb : Below w.heap.size w w') : SegW w' F B b s rs vl ve :=
 h.keep hb.size (fun k hk => hb.block k (hF k hk)) (grown_of_below hb none) (by simp) (by cases vl.ownBlock <;> simp) (by cases ve.ownBlock <;> simp)
theorem SegW.mono (h : SegW w F B b s rs vl ve) (hF : ∀ k, F k → F' k) : SegW w F' B b s rs vl ve := ⟨h.blk, h.low, h.ents, h.map, fun q hq => (h.dat q hq).mono hF, h.ends⟩
theorem SegW.rd (h : SegW w F B b s rs vl ve) (hn : SegB s) : SegRd w (fun k => F k ∨ (B ≤ k ∧ k < w.heap.size)) ⟨b, 0, none⟩ s := by
 obtain ⟨A1, c1, e1, k1, k2, _⟩ := jrow_shape h.ents
 obtain ⟨A2, c2, e2, k3, k4, _⟩ := Own.shape h.ends
 have hrl : rs.length = s.l.length := by rw [← h.map, List.length_map]
 rw [List.length_map] at k3 e2
 subst e1 e2
 refine ⟨⟨A1, c1, rs, A2, c2, fun _ => ⟨b, 0, rfl, .inr ⟨h.low, h.blk.lt⟩, h.blk.lt, fun j u hu => ?_⟩, by rw [← hrl]; exact k1, k2, k3, k4, RdF.of_row h.ents (fun k h1 h2 => .inr ⟨h1, h2⟩) (by rw [erCells_len]; omega), h.map, fun q hq => (h.dat q hq).mono (fun k hk => .inl hk), RdF.of_own h.ends (fun k h1 h2 => .inr ⟨h1, h2⟩)⟩, hn⟩
 rw [Nat.zero_add]
 refine blk_cells_at0 h.blk j u ?_
 rw [hrl]
 exact hu
theorem SegW.segM (h : SegW w F B b s rs vl ve) (hn : SegB s) (he : s.ends.length = s.l.length + 1) (hl : s.l.length ≤ 1099511627776) (ht : ∀ e ∈ s.l, e.b.length ≤ 65535) : SegM w (fun k => F k ∨ (B ≤ k ∧ k < w.heap.size)) ⟨b, 0, none⟩ s := ⟨h.rd hn, he, hl, ht⟩
end
theorem own_low {w : World} {B B' : Nat} {e : TypeId} {size n : Nat} {v : Value} {xs : List Value} (h : w.ownsRow B e size v n xs) (hB : B' ≤ B) : w.ownsRow B' e size v n xs := by
 obtain ⟨h1, h2⟩ := h
 refine ⟨h1, ?_⟩
 rcases h2 with h2 | ⟨g, cap, cur, hv, hb, r⟩
 ·exact .inl h2
 ·exact .inr ⟨g, cap, cur, hv, by omega, r⟩
theorem erCells_one4 {w : World} {F : Nat → Prop} {rs : List EntR} (h : ∀ q ∈ rs, DatF w F q.v q.e.b) : ∀ u ∈ erCells rs, u.oneCell' = true := by
 intro u hu
 obtain ⟨q, hq, hu⟩ := List.mem_flatMap.1 hu
 obtain ⟨A, c, hv, _⟩ := h q hq
 simp only [erOne, List.mem_cons, List.not_mem_nil, or_false] at hu
 rcases hu with rfl | rfl | rfl | rfl
 ·rfl
 ·rfl
 ·rfl
 ·rw [hv]; rfl
set_option maxHeartbeats 4000000 in
set_option maxRecDepth 100000 in
theorem jahead_any {w : World} {F : Nat → Prop} {ad : Addr} {s : SegP} (h : SegM w F ad s) (hF : ∀ k, F k → k < w.heap.size) (hsl : s.l.length ≤ 1000000000) (ix : Int) (hix : 0 ≤ ix ∧ ix ≤ 9223372036854775807) :
  Calls Tryz.prog 60 #[.pointer (some ad), .int .i64 ix] w fun e w' => ∃ b rs vl ve, e = .returned (.pointer (some ⟨b, 0, none⟩)) ∧ SegW w' F w.heap.size b (s.ahead ix) rs vl ve ∧ Below w.heap.size w w' := by
 obtain ⟨b, o, Al, cl, rs, Ae, ce, rfl, hFb, hlt, c0, c1, c2, c3, c4, ⟨h1, h2, h3, h4⟩, h6, h7, h8, h9⟩ := h.rd.cells
 have hen := h.ends
 have hln := h.len
 have hfi := h.rd.num.first
 obtain ⟨k, hk⟩ : ∃ k, k = s.aheadN ix := ⟨_, rfl⟩
 have hkl : k ≤ s.l.length := by rw [hk]; exact Nat.min_le_right _ _
 obtain ⟨fi, hfe⟩ : ∃ x, x = s.first := ⟨_, rfl⟩
 obtain ⟨sk, hske⟩ : ∃ x, x = s.k := ⟨_, rfl⟩
 obtain ⟨tm, htme⟩ : ∃ x, x = s.term := ⟨_, rfl⟩
 obtain ⟨nl, hnl⟩ : ∃ x, x = s.l.length := ⟨_, rfl⟩
 obtain ⟨ne, hne⟩ : ∃ x, x = s.ends.length := ⟨_, rfl⟩
 rw [← hfe] at c1 hfi
 rw [← hske] at c0
 rw [← htme] at c2
 rw [← hnl] at c3 h1 hln hen hkl hsl
 rw [← hne] at c4 h3 hen
 have hmin : min (max (ix - fi) 0) (nl : Int) = (k : Int) := by
  rw [hk]
  unfold SegP.aheadN
  rw [← hfe, ← hnl]
  omega
 have hw1 : IntKind.i64.wrap (ix - fi) = ix - fi := IntWalk.i64_in _ (by omega)
 have hne1 : ne = nl + 1 := hen
 have hxt : ((erCells rs).take (k * 4)).length = k * 4 := by
  have hrl : rs.length = nl := by rw [hnl, ← h7, List.length_map]
  rw [List.length_take, erCells_len]
  omega
 have hrT : RdF w F Al ((erCells rs).take (k * 4)) := h6.take (k * 4)
 have hrE : RdF w F Ae ((s.ends.map (Value.int .i64)).take (k + 1)) := h9.take (k + 1)
 have hxe : ((s.ends.map (Value.int .i64)).take (k + 1)).length = k + 1 := by rw [List.length_take, List.length_map, ← hne]; omega
 have HRT := Lib.hid hrT
 have HRE := Lib.hid hrE
 have HXT := Lib.hid hxt
 have HXE := Lib.hid hxe
 have HD := Lib.hid h8
 have HM := Lib.hid h7
 have HF := Lib.hid hF
 have HK := Lib.hid hk
 have HAH := Lib.hid (show s.ahead ix = ⟨sk, fi, tm, s.l.take k, s.ends.take (k + 1)⟩ by rw [hk, hske, hfe, htme]; rfl)
 clear h h6 h7 h8 h9 hk hfe hske htme hnl hne hxt hrT hrE hxe hF hen hFb
 go_enter Tryz.func60, Tryz.ntmps60
 go_upto_region 1 with fail
 go_cut [5] from 6 to 18 (fun kv wx => kv = .int .i64 k ∧ Hid (Below w.heap.size w wx))
 case first =>
  refine wp_region_held_drew (S := fun W => W.cell? ⟨b, o + 1, none⟩ = some (.int .i64 fi) ∧ W.cell? ⟨b, o + 3, none⟩ = some (.slice Al nl cl) ∧ True ∧ True) (by kernel_rfl) ⟨c1, c3, trivial, trivial⟩ (fun hHeld => ?_)
  refine held_take 0 (v := ?_) (by simp) (by kernel_rfl) (by kernel_rfl) (by kernel_rfl) (fun _ _ _ h => h) (Or.inl ⟨by rfl, ?_⟩) hHeld ?_
  case refine_2 => (intro w hSw; (try dsimp only at hSw); (try (obtain ⟨s0, s1, s2, s3⟩ := hSw)); simp only [List.getElem_cons_zero]; go_simp <;> with_reducible rfl)
  simp only [List.getElem_cons_zero, Act.put, List.setIfInBounds_toArray, List.set_cons_zero, List.set_cons_succ]
  refine held_take 1 (v := ?_) (by simp) (by kernel_rfl) (by kernel_rfl) (by kernel_rfl) (fun _ _ _ h => h) (Or.inl ⟨by rfl, ?_⟩) hHeld ?_
  case refine_2 => (intro w hSw; (try dsimp only at hSw); (try (obtain ⟨s0, s1, s2, s3⟩ := hSw)); simp only [List.getElem_cons_zero, List.getElem_cons_succ]; go_simp <;> with_reducible rfl)
  simp only [List.getElem_cons_zero, List.getElem_cons_succ, Act.put, List.setIfInBounds_toArray, List.set_cons_zero, List.set_cons_succ]
  refine held_take 2 (v := ?_) (by simp) (by kernel_rfl) (by kernel_rfl) (by kernel_rfl) (fun _ _ _ h => h) (Or.inl ⟨by rfl, ?_⟩) hHeld ?_
  case refine_2 => (intro w hSw; (try dsimp only at hSw); (try (obtain ⟨s0, s1, s2, s3⟩ := hSw)); simp only [List.getElem_cons_zero, List.getElem_cons_succ]; go_simp <;> with_reducible rfl)
  simp only [List.getElem_cons_zero, List.getElem_cons_succ, Act.put, List.setIfInBounds_toArray, List.set_cons_zero, List.set_cons_succ]
  refine held_take 3 (v := ?_) (by simp) (by kernel_rfl) (by kernel_rfl) (by kernel_rfl) (fun _ _ _ h => h) (Or.inl ⟨by rfl, ?_⟩) hHeld ?_
  case refine_2 => (intro w hSw; (try dsimp only at hSw); (try (obtain ⟨s0, s1, s2, s3⟩ := hSw)); simp only [List.getElem_cons_zero, List.getElem_cons_succ]; go_simp <;> with_reducible rfl)
  simp only [List.getElem_cons_zero, List.getElem_cons_succ, Act.put, List.setIfInBounds_toArray, List.set_cons_zero, List.set_cons_succ]
  refine held_take 4 (v := ?_) (by simp) (by kernel_rfl) (by kernel_rfl) (by kernel_rfl) (fun _ _ _ h => h) (Or.inl ⟨by rfl, ?_⟩) hHeld ?_
  case refine_2 => (intro w hSw; (try dsimp only at hSw); (try (obtain ⟨s0, s1, s2, s3⟩ := hSw)); simp only [List.getElem_cons_zero, List.getElem_cons_succ]; go_simp <;> with_reducible rfl)
  simp only [List.getElem_cons_zero, List.getElem_cons_succ, Act.put, List.setIfInBounds_toArray, List.set_cons_zero, List.set_cons_succ]
  refine held_take 5 (v := ?_) (by simp) (by kernel_rfl) (by kernel_rfl) (by kernel_rfl) (fun _ _ _ h => h) (Or.inl ⟨by rfl, ?_⟩) hHeld ?_
  case refine_2 => (intro w hSw; (try dsimp only at hSw); (try (obtain ⟨s0, s1, s2, s3⟩ := hSw)); simp only [List.getElem_cons_zero, List.getElem_cons_succ]; go_simp <;> with_reducible rfl)
  simp only [List.getElem_cons_zero, List.getElem_cons_succ, Act.put, List.setIfInBounds_toArray, List.set_cons_zero, List.set_cons_succ]
  refine held_take 6 (v := ?_) (by simp) (by kernel_rfl) (by kernel_rfl) (by kernel_rfl) (fun _ _ _ h => h) (Or.inl ⟨by rfl, ?_⟩) hHeld ?_
  case refine_2 => (intro w hSw; (try dsimp only at hSw); (try (obtain ⟨s0, s1, s2, s3⟩ := hSw)); simp only [List.getElem_cons_zero, List.getElem_cons_succ]; go_simp <;> with_reducible rfl)
  simp only [List.getElem_cons_zero, List.getElem_cons_succ, Act.put, List.setIfInBounds_toArray, List.set_cons_zero, List.set_cons_succ]
  refine held_take 7 (v := ?_) (by simp) (by kernel_rfl) (by kernel_rfl) (by kernel_rfl) (fun _ _ _ h => h) (Or.inl ⟨by rfl, ?_⟩) hHeld ?_
  case refine_2 => (intro w hSw; (try dsimp only at hSw); (try (obtain ⟨s0, s1, s2, s3⟩ := hSw)); simp only [List.getElem_cons_zero, List.getElem_cons_succ]; go_simp <;> with_reducible rfl)
  simp only [List.getElem_cons_zero, List.getElem_cons_succ, Act.put, List.setIfInBounds_toArray, List.set_cons_zero, List.set_cons_succ]
  refine held_take 8 (v := ?_) (by simp) (by kernel_rfl) (by kernel_rfl) (by kernel_rfl) (fun _ _ _ h => h) (Or.inl ⟨by rfl, ?_⟩) hHeld ?_
  case refine_2 => (intro w hSw; (try dsimp only at hSw); (try (obtain ⟨s0, s1, s2, s3⟩ := hSw)); simp only [List.getElem_cons_zero, List.getElem_cons_succ]; go_simp <;> with_reducible rfl)
  simp only [List.getElem_cons_zero, List.getElem_cons_succ, Act.put, List.setIfInBounds_toArray, List.set_cons_zero, List.set_cons_succ]
  refine held_take 9 (v := ?_) (by simp) (by kernel_rfl) (by kernel_rfl) (by kernel_rfl) (fun _ _ _ h => h) (Or.inl ⟨by rfl, ?_⟩) hHeld ?_
  case refine_2 => (intro w hSw; (try dsimp only at hSw); (try (obtain ⟨s0, s1, s2, s3⟩ := hSw)); simp only [List.getElem_cons_zero, List.getElem_cons_succ]; go_simp <;> with_reducible rfl)
  simp only [List.getElem_cons_zero, List.getElem_cons_succ, Act.put, List.setIfInBounds_toArray, List.set_cons_zero, List.set_cons_succ]
  refine held_take 10 (v := ?_) (by simp) (by kernel_rfl) (by kernel_rfl) (by kernel_rfl) (fun _ _ _ h => h) (Or.inl ⟨by rfl, ?_⟩) hHeld ?_
  case refine_2 => (intro w hSw; (try dsimp only at hSw); (try (obtain ⟨s0, s1, s2, s3⟩ := hSw)); simp only [List.getElem_cons_zero, List.getElem_cons_succ]; go_simp <;> with_reducible rfl)
  simp only [List.getElem_cons_zero, List.getElem_cons_succ, Act.put, List.setIfInBounds_toArray, List.set_cons_zero, List.set_cons_succ]
  refine held_take 11 (v := ?_) (by simp) (by kernel_rfl) (by kernel_rfl) (by kernel_rfl) (fun _ _ _ h => h) (Or.inl ⟨by rfl, ?_⟩) hHeld ?_
  case refine_2 => (intro w hSw; (try dsimp only at hSw); (try (obtain ⟨s0, s1, s2, s3⟩ := hSw)); simp only [List.getElem_cons_zero, List.getElem_cons_succ]; go_simp <;> with_reducible rfl)
  simp only [List.getElem_cons_zero, List.getElem_cons_succ, Act.put, List.setIfInBounds_toArray, List.set_cons_zero, List.set_cons_succ]
  refine held_take 12 (v := ?_) (by simp) (by kernel_rfl) (by kernel_rfl) (by kernel_rfl) (fun _ _ _ h => h) (Or.inl ⟨by rfl, ?_⟩) hHeld ?_
  case refine_2 => (intro w hSw; (try dsimp only at hSw); (try (obtain ⟨s0, s1, s2, s3⟩ := hSw)); simp only [List.getElem_cons_zero, List.getElem_cons_succ]; go_simp <;> with_reducible rfl)
  simp only [List.getElem_cons_zero, List.getElem_cons_succ, Act.put, List.setIfInBounds_toArray, List.set_cons_zero, List.set_cons_succ]
  refine held_take 13 (v := ?_) (by simp) (by kernel_rfl) (by kernel_rfl) (by kernel_rfl) (fun _ _ _ h => h) (Or.inl ⟨by rfl, ?_⟩) hHeld ?_
  case refine_2 => (intro w hSw; (try dsimp only at hSw); (try (obtain ⟨s0, s1, s2, s3⟩ := hSw)); simp only [List.getElem_cons_zero, List.getElem_cons_succ]; go_simp <;> with_reducible rfl)
  simp only [List.getElem_cons_zero, List.getElem_cons_succ, Act.put, List.setIfInBounds_toArray, List.set_cons_zero, List.set_cons_succ]
  refine wpAnyH_done (by kernel_rfl) ?_ _
  go_wp2_with fail
  go_meet
  refine ⟨congrArg (Value.int .i64) ?_, Lib.hid (Below.refl _ w).drew⟩
  rw [← hmin]
  repeat' split
  all_goals omega
 case rest =>
  obtain ⟨rfl, HB⟩ := hcut
  have hsc := HB.out.size
  have HBD := Lib.hid HB.out.drew
  have hsd : w.heap.size ≤ wc.drew.heap.size := hsc
  have d0 : wc.drew.cell? ⟨b, o, none⟩ = some (.int .i64 sk) := (HBD.out.cell (p := ⟨b, o, none⟩) hlt).trans c0
  have d1 : wc.drew.cell? ⟨b, o + 1, none⟩ = some (.int .i64 fi) := (HBD.out.cell (p := ⟨b, o + 1, none⟩) hlt).trans c1
  have d2 : wc.drew.cell? ⟨b, o + 2, none⟩ = some (.int .i64 tm) := (HBD.out.cell (p := ⟨b, o + 2, none⟩) hlt).trans c2
  have d3 : wc.drew.cell? ⟨b, o + 3, none⟩ = some (.slice Al nl cl) := (HBD.out.cell (p := ⟨b, o + 3, none⟩) hlt).trans c3
  have d4 : wc.drew.cell? ⟨b, o + 4, none⟩ = some (.slice Ae ne ce) := (HBD.out.cell (p := ⟨b, o + 4, none⟩) hlt).trans c4
  have HCC := Lib.hid (And.intro c0 (And.intro c1 (And.intro c2 (And.intro c3 c4))))
  have hw2 : IntKind.i64.wrap ((k : Int) + 1) = (k : Int) + 1 := IntWalk.i64_in _ (by omega)
  have hkc : k ≤ cl := by omega
  have hkc2 : k + 1 ≤ ce := by omega
  have hkc3 : (0 : Int) ≤ (k : Int) + 1 := by omega
  have hkc4 : (k : Int) + 1 ≤ (ce : Int) := by omega
  have HONE := Lib.hid (erCells_one4 HD.out)
  have HCE := Lib.hid (jcloneE_any Al k cl _ wc.drew ((HRT.out.rd.below HBD.out).more hsd) HXT.out (fun u hu => HONE.out u (List.mem_of_mem_take hu)) (by omega))
  clear c0 c1 c2 c3 c4 HB
  go_upto_region 2 with fail
  refine wp_region_held_drew (S := fun W => W.cell? ⟨b, o, none⟩ = some (.int .i64 sk) ∧ W.cell? ⟨b, o + 1, none⟩ = some (.int .i64 fi) ∧ W.cell? ⟨b, o + 2, none⟩ = some (.int .i64 tm) ∧ W.cell? ⟨b, o + 3, none⟩ = some (.slice Al nl cl) ∧ W.cell? ⟨b, o + 4, none⟩ = some (.slice Ae ne ce) ∧ True) (by kernel_rfl) ⟨d0, d1, d2, d3, d4, trivial⟩ (fun hHeld => ?_)
  refine held_take 0 (v := ?_) (by simp) (by kernel_rfl) (by kernel_rfl) (by kernel_rfl) (fun _ _ _ h => h) (Or.inl ⟨by rfl, ?_⟩) hHeld ?_
  case refine_2 => (intro w hSw; (try dsimp only at hSw); obtain ⟨s0, s1, s2, s3, s4, s5⟩ := hSw; simp only [List.getElem_cons_zero]; go_simp <;> with_reducible rfl)
  simp only [List.getElem_cons_zero, Act.put, List.setIfInBounds_toArray, List.set_cons_zero, List.set_cons_succ]
  refine held_take 1 (v := ?_) (by simp) (by kernel_rfl) (by kernel_rfl) (by kernel_rfl) (fun _ _ _ h => h) (Or.inl ⟨by rfl, ?_⟩) hHeld ?_
  case refine_2 => (intro w hSw; (try dsimp only at hSw); obtain ⟨s0, s1, s2, s3, s4, s5⟩ := hSw; simp only [List.getElem_cons_zero, List.getElem_cons_succ]; go_simp <;> with_reducible rfl)
  simp only [List.getElem_cons_zero, List.getElem_cons_succ, Act.put, List.setIfInBounds_toArray, List.set_cons_zero, List.set_cons_succ]
  refine held_take 2 (v := ?_) (by simp) (by kernel_rfl) (by kernel_rfl) (by kernel_rfl) (fun _ _ _ h => h) (Or.inl ⟨by rfl, ?_⟩) hHeld ?_
  case refine_2 => (intro w hSw; (try dsimp only at hSw); obtain ⟨s0, s1, s2, s3, s4, s5⟩ := hSw; simp only [List.getElem_cons_zero, List.getElem_cons_succ]; go_simp <;> with_reducible rfl)
  simp only [List.getElem_cons_zero, List.getElem_cons_succ, Act.put, List.setIfInBounds_toArray, List.set_cons_zero, List.set_cons_succ]
  refine held_take 3 (v := ?_) (by simp) (by kernel_rfl) (by kernel_rfl) (by kernel_rfl) (fun _ _ _ h => h) (Or.inl ⟨by rfl, ?_⟩) hHeld ?_
  case refine_2 => (intro w hSw; (try dsimp only at hSw); obtain ⟨s0, s1, s2, s3, s4, s5⟩ := hSw; simp only [List.getElem_cons_zero, List.getElem_cons_succ]; go_simp <;> with_reducible rfl)
  simp only [List.getElem_cons_zero, List.getElem_cons_succ, Act.put, List.setIfInBounds_toArray, List.set_cons_zero, List.set_cons_succ]
  refine held_take 4 (v := ?_) (by simp) (by kernel_rfl) (by kernel_rfl) (by kernel_rfl) (fun _ _ _ h => h) (Or.inl ⟨by rfl, ?_⟩) hHeld ?_
  case refine_2 => (intro w hSw; (try dsimp only at hSw); obtain ⟨s0, s1, s2, s3, s4, s5⟩ := hSw; simp only [List.getElem_cons_zero, List.getElem_cons_succ]; go_simp <;> with_reducible rfl)
  simp only [List.getElem_cons_zero, List.getElem_cons_succ, Act.put, List.setIfInBounds_toArray, List.set_cons_zero, List.set_cons_succ]
  refine held_take 5 (v := ?_) (by simp) (by kernel_rfl) (by kernel_rfl) (by kernel_rfl) (fun _ _ _ h => h) (Or.inl ⟨by rfl, ?_⟩) hHeld ?_
  case refine_2 => (intro w hSw; (try dsimp only at hSw); obtain ⟨s0, s1, s2, s3, s4, s5⟩ := hSw; simp only [List.getElem_cons_zero, List.getElem_cons_succ]; go_simp <;> with_reducible rfl)
  simp only [List.getElem_cons_zero, List.getElem_cons_succ, Act.put, List.setIfInBounds_toArray, List.set_cons_zero, List.set_cons_succ]
  refine held_take 6 (v := ?_) (by simp) (by kernel_rfl) (by kernel_rfl) (by kernel_rfl) (fun _ _ _ h => h) (Or.inl ⟨by rfl, ?_⟩) hHeld ?_
  case refine_2 => (intro w hSw; (try dsimp only at hSw); obtain ⟨s0, s1, s2, s3, s4, s5⟩ := hSw; simp only [List.getElem_cons_zero, List.getElem_cons_succ]; go_simp <;> with_reducible rfl)
  simp only [List.getElem_cons_zero, List.getElem_cons_succ, Act.put, List.setIfInBounds_toArray, List.set_cons_zero, List.set_cons_succ]
  refine held_take 7 (v := ?_) (by simp) (by kernel_rfl) (by kernel_rfl) (by kernel_rfl) (fun _ _ _ h => h) (Or.inl ⟨by rfl, ?_⟩) hHeld ?_
  case refine_2 => (intro w hSw; (try dsimp only at hSw); obtain ⟨s0, s1, s2, s3, s4, s5⟩ := hSw; simp only [List.getElem_cons_zero, List.getElem_cons_succ]; go_simp <;> with_reducible rfl)
  simp only [List.getElem_cons_zero, List.getElem_cons_succ, Act.put, List.setIfInBounds_toArray, List.set_cons_zero, List.set_cons_succ]
  refine held_take 8 (v := ?_) (by simp) (by kernel_rfl) (by kernel_rfl) (by kernel_rfl) (fun _ _ _ h => h) (Or.inl ⟨by rfl, ?_⟩) hHeld ?_
  case refine_2 => (intro w hSw; (try dsimp only at hSw); obtain ⟨s0, s1, s2, s3, s4, s5⟩ := hSw; simp only [List.getElem_cons_zero, List.getElem_cons_succ]; go_simp <;> with_reducible rfl)
  simp only [List.getElem_cons_zero, List.getElem_cons_succ, Act.put, List.setIfInBounds_toArray, List.set_cons_zero, List.set_cons_succ]
  refine held_take 9 (v := ?_) (by simp) (by kernel_rfl) (by kernel_rfl) (by kernel_rfl) (fun _ _ _ h => h) (Or.inl ⟨by rfl, ?_⟩) hHeld ?_
  case refine_2 => (intro w hSw; (try dsimp only at hSw); obtain ⟨s0, s1, s2, s3, s4, s5⟩ := hSw; simp only [List.getElem_cons_zero, List.getElem_cons_succ]; go_simp <;> with_reducible rfl)
  simp only [List.getElem_cons_zero, List.getElem_cons_succ, Act.put, List.setIfInBounds_toArray, List.set_cons_zero, List.set_cons_succ]
  refine held_take 10 (v := ?_) (by simp) (by kernel_rfl) (by kernel_rfl) (by kernel_rfl) (fun _ _ _ h => h) (Or.inl ⟨by rfl, ?_⟩) hHeld ?_
  case refine_2 => (intro w hSw; (try dsimp only at hSw); obtain ⟨s0, s1, s2, s3, s4, s5⟩ := hSw; simp only [List.getElem_cons_zero, List.getElem_cons_succ]; go_simp <;> with_reducible rfl)
  simp only [List.getElem_cons_zero, List.getElem_cons_succ, Act.put, List.setIfInBounds_toArray, List.set_cons_zero, List.set_cons_succ]
  refine held_take 11 (v := ?_) (by simp) (by kernel_rfl) (by kernel_rfl) (by kernel_rfl) (fun _ _ _ h => h) (Or.inl ⟨by rfl, ?_⟩) hHeld ?_
  case refine_2 => (intro w hSw; (try dsimp only at hSw); obtain ⟨s0, s1, s2, s3, s4, s5⟩ := hSw; simp only [List.getElem_cons_zero, List.getElem_cons_succ]; go_simp <;> with_reducible rfl)
  simp only [List.getElem_cons_zero, List.getElem_cons_succ, Act.put, List.setIfInBounds_toArray, List.set_cons_zero, List.set_cons_succ]
  refine held_take 12 (v := ?_) (by simp) (by kernel_rfl) (by kernel_rfl) (by kernel_rfl) (fun _ _ _ h => h) (Or.inl ⟨by rfl, ?_⟩) hHeld ?_
  case refine_2 => (intro w hSw; (try dsimp only at hSw); obtain ⟨s0, s1, s2, s3, s4, s5⟩ := hSw; simp only [List.getElem_cons_zero, List.getElem_cons_succ]; go_simp <;> with_reducible rfl)
  simp only [List.getElem_cons_zero, List.getElem_cons_succ, Act.put, List.setIfInBounds_toArray, List.set_cons_zero, List.set_cons_succ]
  refine held_take 13 (v := ?_) (by simp) (by kernel_rfl) (by kernel_rfl) (by kernel_rfl) (fun _ _ _ h => h) (Or.inl ⟨by rfl, ?_⟩) hHeld ?_
  case refine_2 => (intro w hSw; (try dsimp only at hSw); obtain ⟨s0, s1, s2, s3, s4, s5⟩ := hSw; simp only [List.getElem_cons_zero, List.getElem_cons_succ]; go_simp <;> with_reducible rfl)
  simp only [List.getElem_cons_zero, List.getElem_cons_succ, Act.put, List.setIfInBounds_toArray, List.set_cons_zero, List.set_cons_succ]
  refine held_take 14 (v := ?_) (by simp) (by kernel_rfl) (by kernel_rfl) (by kernel_rfl) (fun _ _ _ h => h) (Or.inl ⟨by rfl, ?_⟩) hHeld ?_
  case refine_2 => (intro w hSw; (try dsimp only at hSw); obtain ⟨s0, s1, s2, s3, s4, s5⟩ := hSw; simp only [List.getElem_cons_zero, List.getElem_cons_succ]; go_simp <;> with_reducible rfl)
  simp only [List.getElem_cons_zero, List.getElem_cons_succ, Act.put, List.setIfInBounds_toArray, List.set_cons_zero, List.set_cons_succ]
  refine held_take 15 (v := ?_) (by simp) (by kernel_rfl) (by kernel_rfl) (by kernel_rfl) (fun _ _ _ h => h) (Or.inl ⟨by rfl, ?_⟩) hHeld ?_
  case refine_2 => (intro w hSw; (try dsimp only at hSw); obtain ⟨s0, s1, s2, s3, s4, s5⟩ := hSw; simp only [List.getElem_cons_zero, List.getElem_cons_succ]; go_simp <;> with_reducible rfl)
  simp only [List.getElem_cons_zero, List.getElem_cons_succ, Act.put, List.setIfInBounds_toArray, List.set_cons_zero, List.set_cons_succ]
  refine held_take 16 (v := ?_) (by simp) (by kernel_rfl) (by kernel_rfl) (by kernel_rfl) (fun _ _ _ h => h) (Or.inl ⟨by rfl, ?_⟩) hHeld ?_
  case refine_2 => (intro w hSw; (try dsimp only at hSw); obtain ⟨s0, s1, s2, s3, s4, s5⟩ := hSw; simp only [List.getElem_cons_zero, List.getElem_cons_succ]; go_simp <;> with_reducible rfl)
  simp only [List.getElem_cons_zero, List.getElem_cons_succ, Act.put, List.setIfInBounds_toArray, List.set_cons_zero, List.set_cons_succ]
  refine held_take 17 (v := ?_) (by simp) (by kernel_rfl) (by kernel_rfl) (by kernel_rfl) (fun _ _ _ h => h) (Or.inl ⟨by rfl, ?_⟩) hHeld ?_
  case refine_2 => (intro w hSw; (try dsimp only at hSw); obtain ⟨s0, s1, s2, s3, s4, s5⟩ := hSw; simp only [List.getElem_cons_zero, List.getElem_cons_succ]; go_simp <;> with_reducible rfl)
  simp only [List.getElem_cons_zero, List.getElem_cons_succ, Act.put, List.setIfInBounds_toArray, List.set_cons_zero, List.set_cons_succ]
  refine held_take 19 (v := ?_) (by simp) (by kernel_rfl) (by kernel_rfl) (by kernel_rfl) (fun _ _ _ h => h) (Or.inl ⟨by rfl, ?_⟩) hHeld ?_
  case refine_2 => (intro w hSw; (try dsimp only at hSw); obtain ⟨s0, s1, s2, s3, s4, s5⟩ := hSw; simp only [List.getElem_cons_zero, List.getElem_cons_succ]; go_simp <;> with_reducible rfl)
  simp only [List.getElem_cons_zero, List.getElem_cons_succ, Act.put, List.setIfInBounds_toArray, List.set_cons_zero, List.set_cons_succ]
  refine held_take 20 (v := ?_) (by simp) (by kernel_rfl) (by kernel_rfl) (by kernel_rfl) (fun _ _ _ h => h) (Or.inl ⟨by rfl, ?_⟩) hHeld ?_
  case refine_2 => (intro w hSw; (try dsimp only at hSw); obtain ⟨s0, s1, s2, s3, s4, s5⟩ := hSw; simp only [List.getElem_cons_zero, List.getElem_cons_succ]; go_simp <;> with_reducible rfl)
  simp only [List.getElem_cons_zero, List.getElem_cons_succ, Act.put, List.setIfInBounds_toArray, List.set_cons_zero, List.set_cons_succ]
  refine held_take 21 (v := ?_) (by simp) (by kernel_rfl) (by kernel_rfl) (by kernel_rfl) (fun _ _ _ h => h) (Or.inl ⟨by rfl, ?_⟩) hHeld ?_
  case refine_2 => (intro w hSw; (try dsimp only at hSw); obtain ⟨s0, s1, s2, s3, s4, s5⟩ := hSw; simp only [List.getElem_cons_zero, List.getElem_cons_succ]; go_simp <;> with_reducible rfl)
  simp only [List.getElem_cons_zero, List.getElem_cons_succ, Act.put, List.setIfInBounds_toArray, List.set_cons_zero, List.set_cons_succ]
  refine held_take 22 (v := ?_) (by simp) (by kernel_rfl) (by kernel_rfl) (by kernel_rfl) (fun _ _ _ h => h) (Or.inl ⟨by rfl, ?_⟩) hHeld ?_
  case refine_2 => (intro w hSw; (try dsimp only at hSw); obtain ⟨s0, s1, s2, s3, s4, s5⟩ := hSw; simp only [List.getElem_cons_zero, List.getElem_cons_succ]; go_simp <;> with_reducible rfl)
  simp only [List.getElem_cons_zero, List.getElem_cons_succ, Act.put, List.setIfInBounds_toArray, List.set_cons_zero, List.set_cons_succ]
  refine held_take 23 (v := ?_) (by simp) (by kernel_rfl) (by kernel_rfl) (by kernel_rfl) (fun _ _ _ h => h) (Or.inl ⟨by rfl, ?_⟩) hHeld ?_
  case refine_2 => (intro w hSw; (try dsimp only at hSw); obtain ⟨s0, s1, s2, s3, s4, s5⟩ := hSw; simp only [List.getElem_cons_zero, List.getElem_cons_succ]; go_simp <;> with_reducible rfl)
  simp only [List.getElem_cons_zero, List.getElem_cons_succ, Act.put, List.setIfInBounds_toArray, List.set_cons_zero, List.set_cons_succ]
  refine held_take 24 (v := ?_) (by simp) (by kernel_rfl) (by kernel_rfl) (by kernel_rfl) (fun _ _ _ h => h) (Or.inl ⟨by rfl, ?_⟩) hHeld ?_
  case refine_2 => (intro w hSw; (try dsimp only at hSw); obtain ⟨s0, s1, s2, s3, s4, s5⟩ := hSw; simp only [List.getElem_cons_zero, List.getElem_cons_succ]; go_simp <;> with_reducible rfl)
  simp only [List.getElem_cons_zero, List.getElem_cons_succ, Act.put, List.setIfInBounds_toArray, List.set_cons_zero, List.set_cons_succ]
  refine held_take 25 (v := ?_) (by simp) (by kernel_rfl) (by kernel_rfl) (by kernel_rfl) (fun _ _ _ h => h) (Or.inl ⟨by rfl, ?_⟩) hHeld ?_
  case refine_2 => (intro w hSw; (try dsimp only at hSw); obtain ⟨s0, s1, s2, s3, s4, s5⟩ := hSw; simp only [List.getElem_cons_zero, List.getElem_cons_succ]; go_simp <;> with_reducible rfl)
  simp only [List.getElem_cons_zero, List.getElem_cons_succ, Act.put, List.setIfInBounds_toArray, List.set_cons_zero, List.set_cons_succ]
  refine held_sole 18 (by simp) (by kernel_rfl) (fun K hK => ?_)
  simp only [List.getElem_cons_zero, List.getElem_cons_succ]
  go_simp
  refine HCE.out.mono ?_
  rintro e w6 ⟨vl, rfl, hown6, hb6⟩
  obtain ⟨A6, c6, hv6, _⟩ := jrow_shape hown6
  subst hv6
  have HO6 := Lib.hid hown6
  have HB6 := Lib.hid (HBD.out.trans (hb6.mono hsd))
  have hs6 := HB6.out.size
  have hz6 := hb6.size
  have e0 : w6.cell? ⟨b, o, none⟩ = some (.int .i64 sk) := (HB6.out.cell (p := ⟨b, o, none⟩) hlt).trans HCC.out.1
  have e1 : w6.cell? ⟨b, o + 1, none⟩ = some (.int .i64 fi) := (HB6.out.cell (p := ⟨b, o + 1, none⟩) hlt).trans HCC.out.2.1
  have e2 : w6.cell? ⟨b, o + 2, none⟩ = some (.int .i64 tm) := (HB6.out.cell (p := ⟨b, o + 2, none⟩) hlt).trans HCC.out.2.2.1
  have e3 : w6.cell? ⟨b, o + 3, none⟩ = some (.slice Al nl cl) := (HB6.out.cell (p := ⟨b, o + 3, none⟩) hlt).trans HCC.out.2.2.2.1
  have e4 : w6.cell? ⟨b, o + 4, none⟩ = some (.slice Ae ne ce) := (HB6.out.cell (p := ⟨b, o + 4, none⟩) hlt).trans HCC.out.2.2.2.2
  have HCI := Lib.hid (jcloneI_any Ae (k + 1) ce _ w6 ((HRE.out.rd.below HB6.out).more hs6) (by rw [HXE.out]; omega) (fun u hu => by obtain ⟨n, _, rfl⟩ := List.mem_map.1 (List.mem_of_mem_take hu); rfl) (by omega))
  clear hown6 hb6 HCE d0 d1 d2 d3 d4
  refine hK.out _ _ ⟨e0, e1, e2, e3, e4, trivial⟩ (fun hHeld => ?_)
  clear hK K
  try simp only [Act.put, List.setIfInBounds_toArray, List.set_cons_zero, List.set_cons_succ]
  refine held_sole 26 (by simp) (by kernel_rfl) (fun K hK => ?_)
  simp only [List.getElem_cons_zero, List.getElem_cons_succ]
  go_simp
  refine HCI.out.mono ?_
  rintro e w7 ⟨ve, rfl, hown7, hb7⟩
  obtain ⟨A7, c7, hv7, _⟩ := jrow_shape hown7
  subst hv7
  have HO7 := Lib.hid hown7
  have HB7 := Lib.hid (HB6.out.trans (hb7.mono hs6))
  have hs7 := HB7.out.size
  have hz7 := hb7.size
  have HO67 := Lib.hid (World.ownsRow.kept HO6.out (grown_of_below hb7 none) (by cases (Value.slice A6 k c6).ownBlock <;> simp))
  have f0 : w7.cell? ⟨b, o, none⟩ = some (.int .i64 sk) := (HB7.out.cell (p := ⟨b, o, none⟩) hlt).trans HCC.out.1
  have f1 : w7.cell? ⟨b, o + 1, none⟩ = some (.int .i64 fi) := (HB7.out.cell (p := ⟨b, o + 1, none⟩) hlt).trans HCC.out.2.1
  have f2 : w7.cell? ⟨b, o + 2, none⟩ = some (.int .i64 tm) := (HB7.out.cell (p := ⟨b, o + 2, none⟩) hlt).trans HCC.out.2.2.1
  have f3 : w7.cell? ⟨b, o + 3, none⟩ = some (.slice Al nl cl) := (HB7.out.cell (p := ⟨b, o + 3, none⟩) hlt).trans HCC.out.2.2.2.1
  have f4 : w7.cell? ⟨b, o + 4, none⟩ = some (.slice Ae ne ce) := (HB7.out.cell (p := ⟨b, o + 4, none⟩) hlt).trans HCC.out.2.2.2.2
  clear hown7 hb7 HCI e0 e1 e2 e3 e4 HO6 HB6
  refine hK.out _ _ ⟨f0, f1, f2, f3, f4, trivial⟩ (fun hHeld => ?_)
  clear hK K
  try simp only [Act.put, List.setIfInBounds_toArray, List.set_cons_zero, List.set_cons_succ]
  refine held_take 27 (v := ?_) (by simp) (by kernel_rfl) (by kernel_rfl) (by kernel_rfl) (fun _ _ _ h => h) (Or.inl ⟨by rfl, ?_⟩) hHeld ?_
  case refine_2 => (intro w hSw; (try dsimp only at hSw); obtain ⟨s0, s1, s2, s3, s4, s5⟩ := hSw; simp only [List.getElem_cons_zero, List.getElem_cons_succ]; go_simp <;> with_reducible rfl)
  simp only [List.getElem_cons_zero, List.getElem_cons_succ, Act.put, List.setIfInBounds_toArray, List.set_cons_zero, List.set_cons_succ]
  refine held_sole 28 (by simp) (by kernel_rfl) (fun K hK => ?_)
  simp only [List.getElem_cons_zero, List.getElem_cons_succ]
  go_simp
  have hb8 : Below w7.heap.size w7 (w7.alloc (.cells #[.int .i64 sk, .int .i64 fi, .int .i64 tm, .slice A6 k c6, .slice A7 (k + 1) c7] 104)) := (Below.refl _ w7).alloc (Nat.le_refl _) _
  have hk8 := Blk.new w7 104 #[.int .i64 sk, .int .i64 fi, .int .i64 tm, .slice A6 k c6, .slice A7 (k + 1) c7]
  have HB8 := Lib.hid (HB7.out.trans (hb8.mono hs7))
  have HO68 := Lib.hid (World.ownsRow.kept HO67.out (grown_of_below hb8 none) (by cases (Value.slice A6 k c6).ownBlock <;> simp))
  have HO78 := Lib.hid (World.ownsRow.kept HO7.out (grown_of_below hb8 none) (by cases (Value.slice A7 (k + 1) c7).ownBlock <;> simp))
  have HK8 := Lib.hid hk8
  have g0 := (HB8.out.cell (p := ⟨b, o, none⟩) hlt).trans HCC.out.1
  have g1 := (HB8.out.cell (p := ⟨b, o + 1, none⟩) hlt).trans HCC.out.2.1
  have g2 := (HB8.out.cell (p := ⟨b, o + 2, none⟩) hlt).trans HCC.out.2.2.1
  have g3 := (HB8.out.cell (p := ⟨b, o + 3, none⟩) hlt).trans HCC.out.2.2.2.1
  have g4 := (HB8.out.cell (p := ⟨b, o + 4, none⟩) hlt).trans HCC.out.2.2.2.2
  clear hb8 hk8 HO67 HO7 f0 f1 f2 f3 f4
  obtain ⟨w8, hw8⟩ : ∃ W, W = w7.alloc (.cells #[.int .i64 sk, .int .i64 fi, .int .i64 tm, .slice A6 k c6, .slice A7 (k + 1) c7] 104) := ⟨_, rfl⟩
  rw [← hw8] at HB8 HO68 HO78 HK8 g0 g1 g2 g3 g4 ⊢
  clear hw8
  refine hK.out _ _ ⟨g0, g1, g2, g3, g4, trivial⟩ (fun hHeld => ?_)
  clear hK K
  try simp only [Act.put, List.setIfInBounds_toArray, List.set_cons_zero, List.set_cons_succ]
  refine held_take 29 (v := ?_) (by simp) (by kernel_rfl) (by kernel_rfl) (by kernel_rfl) (fun _ _ _ h => h) (Or.inl ⟨by rfl, ?_⟩) hHeld ?_
  case refine_2 => (intro w hSw; (try dsimp only at hSw); obtain ⟨s0, s1, s2, s3, s4, s5⟩ := hSw; simp only [List.getElem_cons_zero, List.getElem_cons_succ]; go_simp <;> with_reducible rfl)
  simp only [List.getElem_cons_zero, List.getElem_cons_succ, Act.put, List.setIfInBounds_toArray, List.set_cons_zero, List.set_cons_succ]
  refine wpAnyH_done (by kernel_rfl) ?_ _
  clear hHeld g0 g1 g2 g3 g4
  go_wp2_with fail
  go_ret
  have hrl : (rs.take k).length = k := by
   have h1 := HXT.out
   rw [erCells_take, erCells_len] at h1
   omega
  refine ⟨w7.heap.size, rs.take k, .slice A6 k c6, .slice A7 (k + 1) c7, rfl, ?_, HB8.out⟩
  rw [HAH.out]
  refine ⟨HK8.out, by omega, ?_, ?_, fun q hq => (HD.out q (List.mem_of_mem_take hq)).keep HB8.out.size (fun k hk => HB8.out.block k (HF.out k hk)), ?_⟩
  ·rw [hrl, ← erCells_take]
   exact own_low HO68.out hsd
  ·rw [List.map_take, HM.out]
  ·have h1 := own_low HO78.out hs6
   unfold Own
   rw [List.length_map, List.length_take, List.map_take]
   have h2 := HXE.out
   rw [List.length_take, List.length_map] at h2
   rw [h2]
   exact h1
end Go.Proofs.YtgeofijddhflaaaGreatDoor
