/- journal: acts to come are made (remove, sync, put). No condition. -/
import Derived.Test.YtgeofijddhflaaaGreatDoorQJnActs
import Derived.Shelf.Lay
set_option linter.unusedVariables false
set_option linter.unusedSimpArgs false
namespace Go.Proofs.YtgeofijddhflaaaGreatDoor
open Go.RowKit Go.Shelf Go.Maps Oct
theorem info_fnJ : (Tryz.prog.info? 98).map (fun i => (i.zero, i.size, i.bytes)) = some (some .nilFunc, 1, 8) := by kernel_rfl
def JActV (W : World) (E : Nat → Prop) (gj g : Nat) (v : Value) : JAct → Prop
 | .rm n => ∃ b1 b2, v = .func (.func 96) #[] #[.pointer (some ⟨b1, 0, none⟩), .pointer (some ⟨b2, 0, none⟩)] ∧ (E b1 ∧ E b2) ∧ W.cell? ⟨b1, 0, none⟩ = some (.pointer (some ⟨gj, 0, none⟩)) ∧ W.cell? ⟨b2, 0, none⟩ = some (.string (str n)) ∧ n.length ≤ 1000
 | .sync n => ∃ b1 b2, v = .func (.func 109) #[] #[.pointer (some ⟨b1, 0, none⟩), .pointer (some ⟨b2, 0, none⟩)] ∧ (E b1 ∧ E b2) ∧ W.cell? ⟨b1, 0, none⟩ = some (.pointer (some ⟨gj, 0, none⟩)) ∧ W.cell? ⟨b2, 0, none⟩ = some (.string (str n)) ∧ n.length ≤ 1000
 | .app n p => ∃ b1 b2 b3 A c, v = .func (.func 117) #[] #[.pointer (some ⟨b1, 0, none⟩), .pointer (some ⟨b2, 0, none⟩), .pointer (some ⟨b3, 0, none⟩)] ∧ (E b1 ∧ E b2 ∧ E b3) ∧ W.cell? ⟨b1, 0, none⟩ = some (.pointer (some ⟨gj, 0, none⟩)) ∧ W.cell? ⟨b2, 0, none⟩ = some (.string (str n)) ∧ n.length ≤ 1000 ∧ W.cell? ⟨b3, 0, none⟩ = some (.slice A p.length c) ∧ p.length ≤ c ∧ p.length ≤ 274877906944 ∧ RdF W E A (cells p)
 | .cut n k => (∃ b1 b13 s, v = .func (.func 54) #[] #[.pointer (some ⟨b1, 0, none⟩), .pointer (some ⟨b13, 0, none⟩)] ∧ E b1 ∧ W.cell? ⟨b1, 0, none⟩ = some (.pointer (some ⟨g, 0, none⟩)) ∧ SegM W E ⟨b13, 0, none⟩ s ∧ n = jName s.k ∧ k = s.long) ∨
  ∃ b1 b2 b3 ad s, v = .func (.func 61) #[] #[.pointer (some ⟨b1, 0, none⟩), .pointer (some ⟨b2, 0, none⟩), .pointer (some ⟨b3, 0, none⟩)] ∧ (E b1 ∧ E b2 ∧ E b3) ∧ W.cell? ⟨b1, 0, none⟩ = some (.pointer (some ⟨gj, 0, none⟩)) ∧ W.cell? ⟨b2, 0, none⟩ = some (.pointer (some ad)) ∧ W.cell? ⟨b3, 0, none⟩ = some (.int .i64 k) ∧ (-9223372036854775808 ≤ k ∧ k ≤ 9223372036854775807) ∧ SegM W E ad s ∧ n = jName s.k
 | .ren => ∃ b1, v = .func (.func 70) #[] #[.pointer (some ⟨b1, 0, none⟩)] ∧ E b1 ∧ W.cell? ⟨b1, 0, none⟩ = some (.pointer (some ⟨gj, 0, none⟩))
theorem JActV.keep {W W' : World} {E : Nat → Prop} {gj g : Nat} {v : Value} {a : JAct} (h : JActV W E gj g v a) (hs : W.heap.size ≤ W'.heap.size) (hk : ∀ k, E k → W'.heap[k]? = W.heap[k]?) : JActV W' E gj g v a := by
 have hc : ∀ b i u, E b → W.cell? ⟨b, i, none⟩ = some u → W'.cell? ⟨b, i, none⟩ = some u := fun b i u hb hu => (World.cell?_of_block (hk b hb)).trans hu
 cases a with
 | rm n =>
  obtain ⟨b1, b2, h1, h2, h3, h4, h5⟩ := h
  exact ⟨b1, b2, h1, h2, hc _ _ _ h2.1 h3, hc _ _ _ h2.2 h4, h5⟩
 | sync n =>
  obtain ⟨b1, b2, h1, h2, h3, h4, h5⟩ := h
  exact ⟨b1, b2, h1, h2, hc _ _ _ h2.1 h3, hc _ _ _ h2.2 h4, h5⟩
 | app n p =>
  obtain ⟨b1, b2, b3, A, c, h1, h2, h3, h4, h5, h6, h7, h8, h9⟩ := h
  exact ⟨b1, b2, b3, A, c, h1, h2, hc _ _ _ h2.1 h3, hc _ _ _ h2.2.1 h4, h5, hc _ _ _ h2.2.2 h6, h7, h8, h9.keep hs hk⟩
 | cut n k =>
  rcases h with ⟨b1, b13, s, h1, h2, h3, h4, h5⟩ | ⟨b1, b2, b3, ad, s, h1, h2, h3, h4, h5, h6, h7, h8⟩
  ·exact .inl ⟨b1, b13, s, h1, h2, hc _ _ _ h2 h3, h4.keep hs hk, h5⟩
  ·exact .inr ⟨b1, b2, b3, ad, s, h1, h2, hc _ _ _ h2.1 h3, hc _ _ _ h2.2.1 h4, hc _ _ _ h2.2.2 h5, h6, h7.keep hs hk, h8⟩
 | ren =>
  obtain ⟨b1, h1, h2, h3⟩ := h
  exact ⟨b1, h1, h2, hc _ _ _ h2 h3⟩
theorem JActV.mono {W : World} {E E' : Nat → Prop} {gj g : Nat} {v : Value} {a : JAct} (h : JActV W E gj g v a) (hE : ∀ k, E k → E' k) : JActV W E' gj g v a := by
 cases a with
 | rm n =>
  obtain ⟨b1, b2, h1, h2, h3, h4, h5⟩ := h
  exact ⟨b1, b2, h1, ⟨hE _ h2.1, hE _ h2.2⟩, h3, h4, h5⟩
 | sync n =>
  obtain ⟨b1, b2, h1, h2, h3, h4, h5⟩ := h
  exact ⟨b1, b2, h1, ⟨hE _ h2.1, hE _ h2.2⟩, h3, h4, h5⟩
 | app n p =>
  obtain ⟨b1, b2, b3, A, c, h1, h2, h3, h4, h5, h6, h7, h8, h9⟩ := h
  exact ⟨b1, b2, b3, A, c, h1, ⟨hE _ h2.1, hE _ h2.2.1, hE _ h2.2.2⟩, h3, h4, h5, h6, h7, h8, h9.mono hE⟩
 | cut n k =>
  rcases h with ⟨b1, b13, s, h1, h2, h3, h4, h5⟩ | ⟨b1, b2, b3, ad, s, h1, h2, h3, h4, h5, h6, h7, h8⟩
  ·exact .inl ⟨b1, b13, s, h1, hE _ h2, h3, h4.mono hE, h5⟩
  ·exact .inr ⟨b1, b2, b3, ad, s, h1, ⟨hE _ h2.1, hE _ h2.2.1, hE _ h2.2.2⟩, h3, h4, h5, h6, h7.mono hE, h8⟩
 | ren =>
  obtain ⟨b1, h1, h2, h3⟩ := h
  exact ⟨b1, h1, hE _ h2, h3⟩
theorem costs_cons (a : JAct) (r : List JAct) : costs (a :: r) = a.cost + costs r := by unfold costs; rw [List.map_cons, List.sum_cons]
theorem jfe_len {es : List (Nm × FE)} {pw : PWD} {room : Int} {L : Nat} (h : JDk L (dkOf pw room es)) : (∀ q ∈ es, (q.2.f.b.length : Int) ≤ L) ∧ es.length ≤ L := by
 refine ⟨fun q hq => ?_, ?_⟩
 ·have h1 := jsizes_mem (q := (q.1, q.2.f)) (l := sec FE.f es) (List.mem_map.2 ⟨q, hq, rfl⟩)
  have h2 := h.sz
  have e : sizes (dkOf pw room es).fs = sizes (sec FE.f es) := rfl
  simp only at h1
  omega
 ·have h2 := h.len
  have e : (dkOf pw room es).fs.length = es.length := by show (sec FE.f es).length = _; simp
  omega
theorem jact_calls {W : World} {E : Nat → Prop} {base g m gj : Nat} {pw : PWD} {room : Int} {es : List (Nm × FE)} {a : JAct} {v : Value} (hD : DiskAt W base g m pw room es) (ha : JActV W E gj g v a) (c3 : W.cell? ⟨gj, 3, none⟩ = some (.pointer (some ⟨g, 0, none⟩)))
  (hE : ∀ k, E k → k < W.heap.size ∧ ¬ DFoot g m es k) (hgj : ¬ DFoot g m es gj) (ht : Tab W) {L : Nat} (hok : JDk L (dkOf pw room es)) (hL : L ≤ 137438953472) :
  ∃ F caps, v = .func (.func F) #[] caps ∧ Enters Tryz.prog F ∧ Calls Tryz.prog F caps W fun e w' => e = .returned (.int .i64 (a.run (dkOf pw room es)).1) ∧ DiskTo W base g m es (a.run (dkOf pw room es)).2 w' := by
 have hfl := jfe_len hok
 have hsz : sizes (sec FE.f es) ≤ 4611686018427387904 := by
  have h2 := hok.sz
  have e : sizes (dkOf pw room es).fs = sizes (sec FE.f es) := rfl
  omega
 cases a with
 | rm n =>
  obtain ⟨b1, b2, h1, h2, h3, h4, h5⟩ := ha
  exact ⟨_, _, h1, enters_of Tryz.func96 (by kernel_rfl) rfl, jrm_any hD n h5 b1 b2 h3 h4 c3 (by rintro k (rfl | rfl | rfl); exact (hE _ h2.1).2; exact (hE _ h2.2).2; exact hgj)⟩
 | sync n =>
  obtain ⟨b1, b2, h1, h2, h3, h4, h5⟩ := ha
  exact ⟨_, _, h1, enters_of Tryz.func109 (by kernel_rfl) rfl, jsync_any hD n h5 b1 b2 h3 h4 c3 (by rintro k (rfl | rfl | rfl); exact (hE _ h2.1).2; exact (hE _ h2.2).2; exact hgj)⟩
 | app n p =>
  obtain ⟨b1, b2, b3, A, c, h1, h2, h3, h4, h5, h6, h7, h8, h9⟩ := ha
  exact ⟨_, _, h1, enters_of Tryz.func117 (by kernel_rfl) rfl, jput_any hD n h5 p A c b1 b2 b3 h3 h4 h6 c3 (by rintro k (rfl | rfl | rfl | rfl); exact (hE _ h2.1).2; exact (hE _ h2.2.1).2; exact (hE _ h2.2.2).2; exact hgj) h9.rd h7 h8 (fun q hq => by have := hfl.1 q hq; omega) hsz (by omega)⟩
 | cut n k =>
  rcases ha with ⟨b1, b13, s, h1, h2, h3, h4, h5, h6⟩ | ⟨b1, b2, b3, ad, s, h1, h2, h3, h4, h5, h6, h7, h8⟩
  ·subst h5 h6
   exact ⟨_, _, h1, enters_of Tryz.func54 (by kernel_rfl) rfl, jcutO_any hD b1 b13 h4 (fun k hk => (hE k hk).1) h3 (hE _ h2).2 ht⟩
  ·subst h8
   exact ⟨_, _, h1, enters_of Tryz.func61 (by kernel_rfl) rfl, jcutS_any hD b1 b2 b3 k h6 h7 h3 h4 h5 c3 (by rintro k (rfl | rfl | rfl | rfl); exact (hE _ h2.1).2; exact (hE _ h2.2.1).2; exact (hE _ h2.2.2).2; exact hgj) ht⟩
 | ren =>
  obtain ⟨b1, h1, h2, h3⟩ := ha
  exact ⟨_, _, h1, enters_of Tryz.func70 (by kernel_rfl) rfl, jren_any hD b1 h3 c3 (by omega)⟩
def JnTo (w : World) (base g m : Nat) (es : List (Nm × FE)) (gj : Nat) (t v : Int) (sv : Value) (d : DkD) (bad : Int) (w' : World) : Prop :=
 ∃ es', DiskAt w' base g m d.pw d.room es' ∧ sec FE.f es' = d.fs ∧ Blk w' gj 53 #[.int .i64 t, .int .i64 v, sv, .pointer (some ⟨g, 0, none⟩), .int .i64 bad] ∧ Fr (fun k => DFoot g m es k ∨ k = gj) w w' ∧ ∀ k, DFoot g m es' k → DFoot g m es k ∨ w.heap.size ≤ k
theorem DkD.eta' (d : DkD) {es : List (Nm × FE)} (h : sec FE.f es = d.fs) : dkOf d.pw d.room es = d := by
 unfold dkOf
 rw [h]
set_option maxHeartbeats 2000000 in
set_option maxRecDepth 100000 in
theorem jacts_any {w : World} {E : Nat → Prop} {base g m gj : Nat} {pw : PWD} {room : Int} {es : List (Nm × FE)} (hD : DiskAt w base g m pw room es) {t v : Int} {sv : Value} (hJ : Blk w gj 53 #[.int .i64 t, .int .i64 v, sv, .pointer (some ⟨g, 0, none⟩), .int .i64 0]) (hgb : base ≤ gj)
  (A : Option Addr) (vs : List Value) (al : List JAct) (c : Nat) (hr : RdF w E A vs) (hn : vs.length = al.length) (hv : ∀ k (h : k < vs.length) (h' : k < al.length), JActV w E gj g vs[k] al[k])
  (hE : ∀ k, E k → k < w.heap.size ∧ ¬ DFoot g m es k ∧ k ≠ gj) (hT : ∀ w', Below base w w' → Tab w') {L : Nat} (hok : JDk L (dkOf pw room es)) (hL : L + costs al ≤ 137438953472) (hal : al.length ≤ 1099511627776) :
  Calls Tryz.prog 48 #[.pointer (some ⟨gj, 0, none⟩), .slice A al.length c] w fun e w' => e = .returned (.int .i64 (runJ al (dkOf pw room es)).1) ∧ JnTo w base g m es gj t v sv (runJ al (dkOf pw room es)).2 (runJ al (dkOf pw room es)).1 w' := by
 have hgj : ¬ DFoot g m es gj := hD.not_foot hJ (by decide) (by decide) (by decide)
 have hgl := hJ.lt
 have HLOW := Lib.hid hD.lt
 have HR := Lib.hid hr
 have HV := Lib.hid hv
 have HE := Lib.hid hE
 have HT := Lib.hid hT
 have HN := Lib.hid hn
 have hTo : JnTo w base g m es gj t v sv (dkOf pw room es) 0 w := ⟨es, hD, rfl, hJ, Fr.refl _ _, fun k hk => .inl hk⟩
 have HTO := Lib.hid hTo
 have HOK := Lib.hid hok
 have HGJ := Lib.hid hgj
 obtain ⟨d0, hd0⟩ : ∃ d, d = dkOf pw room es := ⟨_, rfl⟩
 rw [← hd0] at HTO HOK ⊢
 obtain ⟨R, hRR⟩ : ∃ R, R = runJ al d0 := ⟨_, rfl⟩
 rw [← hRR]
 have HRR := Lib.hid hRR
 clear hr hv hE hT hn hTo hok hgj hD hJ hd0 hRR
 go_enter Tryz.func48, Tryz.ntmps48
 go_wp2_with fail
 go_loopw [9, 6] (fun i _ wr => ∃ (k Lk : Nat) (d : DkD) (bd : Int), k ≤ al.length ∧ i = .int .i64 k ∧ Lk + costs (al.drop k) ≤ 137438953472 ∧ Hid (JnTo w base g m es gj t v sv d bd wr) ∧ Hid (JDk Lk d) ∧ Hid (R = if bd = 0 then runJ (al.drop k) d else (bd, d))) (fun i _ _ => al.length - (intOf i).toNat)
 case atStart => exact ⟨0, L, d0, 0, by omega, rfl, hL, HTO, HOK, Lib.hid (by rw [if_pos rfl]; exact HRR.out)⟩
 case round =>
  obtain ⟨k, Lk, d, bd, hk, rfl, hLk, HTk, HOKk, HRk⟩ := hrel
  obtain ⟨esk, hDk, hsk, hJk, hFk, hftk⟩ := HTk.out
  have hsz := hFk.size
  have c2 : wr.cell? ⟨gj, 4, none⟩ = some (.int .i64 bd) := hJk.cell 4
  by_cases hlt : k < al.length
  ·have hkv : k < vs.length := by rw [HN.out]; exact hlt
   have hEk : ∀ q, E q → wr.heap[q]? = w.heap[q]? := fun q hq => hFk.block q (HE.out q hq).1 (by rintro (h1 | h1); exact (HE.out q hq).2.1 h1; exact (HE.out q hq).2.2 h1)
   obtain ⟨ab, ao, rfl, _, hal2, hac⟩ := (HR.out.keep hsz hEk) (by omega)
   have hca : wr.cell? ⟨ab, ao + k, none⟩ = some vs[k] := hac k _ (List.getElem?_eq_getElem hkv)
   have hdr : al.drop k = al[k] :: al.drop (k + 1) := List.drop_eq_getElem_cons hlt
   have hcost : costs (al.drop k) = al[k].cost + costs (al.drop (k + 1)) := by rw [hdr, costs_cons]
   obtain ⟨u, hu⟩ : ∃ u, u = vs[k] := ⟨_, rfl⟩
   obtain ⟨a, ha⟩ : ∃ a, a = al[k] := ⟨_, rfl⟩
   have hact : JActV wr E gj g u a := by rw [hu, ha]; exact (HV.out k hkv hlt).keep hsz hEk
   rw [← hu] at hca
   rw [← ha] at hdr hcost
   by_cases hz : bd = 0
   ·subst hz
    have hRu : R = runJ (a :: al.drop (k + 1)) d := by rw [HRk.out, if_pos rfl, hdr]
    have c3 : wr.cell? ⟨gj, 3, none⟩ = some (.pointer (some ⟨g, 0, none⟩)) := hJk.cell 3
    have hgk : ¬ DFoot g m esk gj := hDk.not_foot hJk (by decide) (by decide) (by decide)
    have hbB : Below base w wr := hFk.below (by have := HLOW.out g (.inl rfl); omega) (by rintro j (h1 | h1); exact (HLOW.out j h1).1; omega)
    obtain ⟨F, caps, hv, hent, hcall⟩ := jact_calls hDk hact c3 (fun q hq => ⟨by have := (HE.out q hq).1; omega, fun h1 => by
     rcases hftk q h1 with h2 | h2
     ·exact (HE.out q hq).2.1 h2
     ·have := (HE.out q hq).1; omega⟩) hgk (HT.out _ hbB) (by rw [DkD.eta' d hsk]; exact HOKk.out) (by omega)
    rw [DkD.eta' d hsk] at hcall
    subst hv
    obtain ⟨AR, hAR⟩ : ∃ AR, AR = a.run d := ⟨_, rfl⟩
    rw [← hAR] at hcall
    have hR2 : R = if AR.1 = 0 then runJ (al.drop (k + 1)) AR.2 else AR := by rw [hRu, hAR]; rfl
    have HR2 := Lib.hid hR2
    have HOK2 := Lib.hid (show JDk (Lk + a.cost) AR.2 by rw [hAR]; exact HOKk.out.run a)
    have hL2 : Lk + a.cost + costs (al.drop (k + 1)) ≤ 137438953472 := by omega
    have HCALL := Lib.hid hcall
    have HSTEP : Hid (∀ w7, DiskTo wr base g m esk AR.2 w7 → ∃ (hz : Blk w7 gj 53 #[.int .i64 t, .int .i64 v, sv, .pointer (some ⟨g, 0, none⟩), .int .i64 0]), JnTo w base g m es gj t v sv AR.2 AR.1 (w7.setCell ⟨gj, 4, none⟩ (.int .i64 AR.1))) := Lib.hid (fun w7 hT7 => by
     obtain ⟨es7, h1, h2, h3, h4⟩ := hT7
     have hJ7 := h3.blk_ hJk hgk
     have hg7 : ¬ DFoot g m es7 gj := h1.not_foot hJ7 (by decide) (by decide) (by decide)
     refine ⟨hJ7, es7, ?_, h2, Blk.set_ hJ7 4 _, ?_, fun q hq => ?_⟩
     ·exact h1.keep (grown_setCell w7 gj 4 _).size (fun q hq => Below.heap_setCell _ _ _ _ (by show q ≠ gj; rintro rfl; exact hg7 hq))
     ·have e1 := hFk.trans h3 (fun j hj => (hftk j hj).elim (fun h => .inl (.inl h)) .inr)
      exact e1.trans (Fr.of_grown (mine := fun k => k = gj) (grown_setCell w7 gj 4 _) (fun k e => by injection e with e; exact e.symm)) (fun j hj => .inl (.inr hj))
     ·rcases h4 q hq with h5 | h5
      ·exact hftk q h5
      ·exact .inr (by omega))
    clear hact hdr hcost ha hu hcall hAR hEk hftk hFk hDk hsk hJk hgk hbB hR2 hRu hac hkv hLk HTk HOKk HRk c3
    go_wp2_with fail
    rw [hent caps wr]
    refine HCALL.out.mono ?_
    rintro e w7 ⟨rfl, hT7⟩
    obtain ⟨hJ7, hJT⟩ := HSTEP.out w7 hT7
    have f4 : w7.cell? ⟨gj, 4, none⟩ = some (.int .i64 0) := hJ7.cell 4
    have z4 : w7.frozen? ⟨gj, 4, none⟩ = false := hJ7.frozen _
    have HJT := Lib.hid hJT
    clear hT7 hJ7 hJT HCALL HSTEP hent hca c2
    go_wp2_with fail
    go_roundw
    case rel => exact ⟨k + 1, Lk + a.cost, AR.2, AR.1, by omega, by go_num, hL2, HJT, HOK2, HR2⟩
    case measure => simp [intOf]; omega
   ·have hL2 : Lk + costs (al.drop (k + 1)) ≤ 137438953472 := by omega
    have HR2 := Lib.hid (show R = if bd = 0 then runJ (al.drop (k + 1)) d else (bd, d) by rw [HRk.out, if_neg hz, if_neg hz])
    have hbn : (bd == 0) = false := by simpa using hz
    clear hact hdr hcost ha hu hEk hftk hFk hDk hsk hJk hac hkv hLk HRk hz
    go_wp2_with fail
    go_roundw
    case rel => exact ⟨k + 1, Lk, d, bd, by omega, by go_num, hL2, HTk, HOKk, HR2⟩
    case measure => simp [intOf]; omega
  ·obtain rfl : k = al.length := by omega
   have hR2 : R = (bd, d) := by
    rw [HRk.out, List.drop_length]
    split
    ·rename_i h; rw [h]; rfl
    ·rfl
   have HTF := Lib.hid (show JnTo w base g m es gj t v sv R.2 R.1 wr by rw [hR2]; exact HTk.out)
   have hR3 : R.1 = bd := by rw [hR2]
   have HR3 := Lib.hid hR3
   clear hR2 hR3 hDk hsk hJk hFk hftk
   go_wp2_with fail
   go_ret
   exact ⟨by rw [HR3.out]; rfl, HTF.out⟩
end Go.Proofs.YtgeofijddhflaaaGreatDoor
set_option linter.unusedVariables false
set_option linter.unusedSimpArgs false
namespace Go.Proofs.YtgeofijddhflaaaGreatDoor
open Go.RowKit Go.Shelf Go.Maps Oct
section
variable {w : World} {gj g : Nat}
theorem jmk_rm (n : Nm) (hn : n.length ≤ 1000) (w : World) :
  Calls Tryz.prog 49 #[.pointer (some ⟨gj, 0, none⟩), .string (str n)] w fun e w' => ∃ v, e = .returned v ∧ Below w.heap.size w w' ∧ (∃ F caps, v = Value.func (.func F) #[] caps) ∧ (∀ k, w.heap.size ≤ k → k < w'.heap.size → ∀ cs fz, w'.heap[k]? ≠ some (.cells cs 98 fz)) ∧ ∀ E : Nat → Prop, (∀ k, w.heap.size ≤ k → k < w'.heap.size → E k) → JActV w' E gj g v (.rm n) := by
 have hfin : ∀ W, W = (w.alloc (.cells #[.pointer (some ⟨gj, 0, none⟩)] 30)).alloc (.cells #[.string (str n)] 9) → Below w.heap.size w W ∧ (∀ k, w.heap.size ≤ k → k < W.heap.size → ∀ cs fz, W.heap[k]? ≠ some (.cells cs 98 fz)) ∧ ∀ E : Nat → Prop, (∀ k, w.heap.size ≤ k → k < W.heap.size → E k) → JActV W E gj g (.func (.func 96) #[] #[.pointer (some ⟨w.heap.size, 0, none⟩), .pointer (some ⟨w.heap.size + 1, 0, none⟩)]) (.rm n) := by
  rintro W rfl
  have h1 := Blk.new w 30 #[.pointer (some ⟨gj, 0, none⟩)]
  have h2 := Blk.new (w.alloc (.cells #[.pointer (some ⟨gj, 0, none⟩)] 30)) 9 #[.string (str n)]
  have hs : (w.alloc (.cells #[.pointer (some ⟨gj, 0, none⟩)] 30)).heap.size = w.heap.size + 1 := by simp
  rw [hs] at h2
  have h1' := h1.below ((Below.refl _ (w.alloc (.cells #[.pointer (some ⟨gj, 0, none⟩)] 30))).alloc (Nat.le_refl _) (.cells #[.string (str n)] 9)) h1.lt
  have hnf : ∀ k, w.heap.size ≤ k → k < ((w.alloc (.cells #[.pointer (some ⟨gj, 0, none⟩)] 30)).alloc (.cells #[.string (str n)] 9)).heap.size → ∀ cs fz, ((w.alloc (.cells #[.pointer (some ⟨gj, 0, none⟩)] 30)).alloc (.cells #[.string (str n)] 9)).heap[k]? ≠ some (.cells cs 98 fz) := fun k hk1 hk2 cs fz e => by
   have hk3 : k < w.heap.size + 1 + 1 := by simpa using hk2
   rcases (by omega : k = w.heap.size ∨ k = w.heap.size + 1) with rfl | rfl
   ·rw [h1'] at e
    injection e with e
    injection e with _ e _
    exact absurd e (by decide)
   ·rw [h2] at e
    injection e with e
    injection e with _ e _
    exact absurd e (by decide)
  exact ⟨((Below.refl _ w).alloc (Nat.le_refl _) _).alloc (by simp) _, hnf, fun E hE => ⟨_, _, rfl, ⟨hE _ (Nat.le_refl _) (by simp; omega), hE _ (by omega) (by simp)⟩, h1'.cell 0, h2.cell 0, hn⟩⟩
 have HFI := Lib.hid hfin
 clear hfin
 go_enter Tryz.func49, Tryz.ntmps49
 go_wp2_with fail
 go_ret
 obtain ⟨h1, h3, h2⟩ := HFI.out _ rfl
 exact ⟨_, rfl, h1, ⟨_, _, rfl⟩, h3, h2⟩
theorem jmk_sync (n : Nm) (hn : n.length ≤ 1000) (w : World) :
  Calls Tryz.prog 57 #[.pointer (some ⟨gj, 0, none⟩), .string (str n)] w fun e w' => ∃ v, e = .returned v ∧ Below w.heap.size w w' ∧ (∃ F caps, v = Value.func (.func F) #[] caps) ∧ (∀ k, w.heap.size ≤ k → k < w'.heap.size → ∀ cs fz, w'.heap[k]? ≠ some (.cells cs 98 fz)) ∧ ∀ E : Nat → Prop, (∀ k, w.heap.size ≤ k → k < w'.heap.size → E k) → JActV w' E gj g v (.sync n) := by
 have hfin : ∀ W, W = (w.alloc (.cells #[.pointer (some ⟨gj, 0, none⟩)] 30)).alloc (.cells #[.string (str n)] 9) → Below w.heap.size w W ∧ (∀ k, w.heap.size ≤ k → k < W.heap.size → ∀ cs fz, W.heap[k]? ≠ some (.cells cs 98 fz)) ∧ ∀ E : Nat → Prop, (∀ k, w.heap.size ≤ k → k < W.heap.size → E k) → JActV W E gj g (.func (.func 109) #[] #[.pointer (some ⟨w.heap.size, 0, none⟩), .pointer (some ⟨w.heap.size + 1, 0, none⟩)]) (.sync n) := by
  rintro W rfl
  have h1 := Blk.new w 30 #[.pointer (some ⟨gj, 0, none⟩)]
  have h2 := Blk.new (w.alloc (.cells #[.pointer (some ⟨gj, 0, none⟩)] 30)) 9 #[.string (str n)]
  have hs : (w.alloc (.cells #[.pointer (some ⟨gj, 0, none⟩)] 30)).heap.size = w.heap.size + 1 := by simp
  rw [hs] at h2
  have h1' := h1.below ((Below.refl _ (w.alloc (.cells #[.pointer (some ⟨gj, 0, none⟩)] 30))).alloc (Nat.le_refl _) (.cells #[.string (str n)] 9)) h1.lt
  have hnf : ∀ k, w.heap.size ≤ k → k < ((w.alloc (.cells #[.pointer (some ⟨gj, 0, none⟩)] 30)).alloc (.cells #[.string (str n)] 9)).heap.size → ∀ cs fz, ((w.alloc (.cells #[.pointer (some ⟨gj, 0, none⟩)] 30)).alloc (.cells #[.string (str n)] 9)).heap[k]? ≠ some (.cells cs 98 fz) := fun k hk1 hk2 cs fz e => by
   have hk3 : k < w.heap.size + 1 + 1 := by simpa using hk2
   rcases (by omega : k = w.heap.size ∨ k = w.heap.size + 1) with rfl | rfl
   ·rw [h1'] at e
    injection e with e
    injection e with _ e _
    exact absurd e (by decide)
   ·rw [h2] at e
    injection e with e
    injection e with _ e _
    exact absurd e (by decide)
  exact ⟨((Below.refl _ w).alloc (Nat.le_refl _) _).alloc (by simp) _, hnf, fun E hE => ⟨_, _, rfl, ⟨hE _ (Nat.le_refl _) (by simp; omega), hE _ (by omega) (by simp)⟩, h1'.cell 0, h2.cell 0, hn⟩⟩
 have HFI := Lib.hid hfin
 clear hfin
 go_enter Tryz.func57, Tryz.ntmps57
 go_wp2_with fail
 go_ret
 obtain ⟨h1, h3, h2⟩ := HFI.out _ rfl
 exact ⟨_, rfl, h1, ⟨_, _, rfl⟩, h3, h2⟩
theorem jmk_put (n : Nm) (hn : n.length ≤ 1000) (p : List UInt8) (A : Option Addr) (c : Nat) (hpc : p.length ≤ c) (hp : p.length ≤ 274877906944) (w : World) :
  Calls Tryz.prog 66 #[.pointer (some ⟨gj, 0, none⟩), .string (str n), .slice A p.length c] w fun e w' => ∃ v, e = .returned v ∧ Below w.heap.size w w' ∧ (∃ F caps, v = Value.func (.func F) #[] caps) ∧ (∀ k, w.heap.size ≤ k → k < w'.heap.size → ∀ cs fz, w'.heap[k]? ≠ some (.cells cs 98 fz)) ∧ ∀ E : Nat → Prop, (∀ k, w.heap.size ≤ k → k < w'.heap.size → E k) → RdF w' E A (cells p) → JActV w' E gj g v (.app n p) := by
 have hfin : ∀ W, W = ((w.alloc (.cells #[.pointer (some ⟨gj, 0, none⟩)] 30)).alloc (.cells #[.string (str n)] 9)).alloc (.cells #[.slice A p.length c] 34) → Below w.heap.size w W ∧ (∀ k, w.heap.size ≤ k → k < W.heap.size → ∀ cs fz, W.heap[k]? ≠ some (.cells cs 98 fz)) ∧ ∀ E : Nat → Prop, (∀ k, w.heap.size ≤ k → k < W.heap.size → E k) → RdF W E A (cells p) → JActV W E gj g (.func (.func 117) #[] #[.pointer (some ⟨w.heap.size, 0, none⟩), .pointer (some ⟨w.heap.size + 1, 0, none⟩), .pointer (some ⟨w.heap.size + 1 + 1, 0, none⟩)]) (.app n p) := by
  rintro W rfl
  have h1 := Blk.new w 30 #[.pointer (some ⟨gj, 0, none⟩)]
  have h2 := Blk.new (w.alloc (.cells #[.pointer (some ⟨gj, 0, none⟩)] 30)) 9 #[.string (str n)]
  have h3 := Blk.new ((w.alloc (.cells #[.pointer (some ⟨gj, 0, none⟩)] 30)).alloc (.cells #[.string (str n)] 9)) 34 #[.slice A p.length c]
  have hs : (w.alloc (.cells #[.pointer (some ⟨gj, 0, none⟩)] 30)).heap.size = w.heap.size + 1 := by simp
  have hs2 : ((w.alloc (.cells #[.pointer (some ⟨gj, 0, none⟩)] 30)).alloc (.cells #[.string (str n)] 9)).heap.size = w.heap.size + 1 + 1 := by simp
  rw [hs] at h2
  rw [hs2] at h3
  have b2 := (Below.refl _ (w.alloc (.cells #[.pointer (some ⟨gj, 0, none⟩)] 30))).alloc (Nat.le_refl _) (.cells #[.string (str n)] 9)
  have b3 := (Below.refl _ ((w.alloc (.cells #[.pointer (some ⟨gj, 0, none⟩)] 30)).alloc (.cells #[.string (str n)] 9))).alloc (Nat.le_refl _) (.cells #[.slice A p.length c] 34)
  have h1' := (h1.below b2 h1.lt)
  have h1'' := h1'.below b3 h1'.lt
  have h2' := h2.below b3 h2.lt
  have hnf : ∀ k, w.heap.size ≤ k → k < (((w.alloc (.cells #[.pointer (some ⟨gj, 0, none⟩)] 30)).alloc (.cells #[.string (str n)] 9)).alloc (.cells #[.slice A p.length c] 34)).heap.size → ∀ cs fz, (((w.alloc (.cells #[.pointer (some ⟨gj, 0, none⟩)] 30)).alloc (.cells #[.string (str n)] 9)).alloc (.cells #[.slice A p.length c] 34)).heap[k]? ≠ some (.cells cs 98 fz) := fun k hk1 hk2 cs fz e => by
   have hk3 : k < w.heap.size + 1 + 1 + 1 := by simpa using hk2
   rcases (by omega : k = w.heap.size ∨ k = w.heap.size + 1 ∨ k = w.heap.size + 1 + 1) with rfl | rfl | rfl
   ·rw [h1''] at e
    injection e with e
    injection e with _ e _
    exact absurd e (by decide)
   ·rw [h2'] at e
    injection e with e
    injection e with _ e _
    exact absurd e (by decide)
   ·rw [h3] at e
    injection e with e
    injection e with _ e _
    exact absurd e (by decide)
  exact ⟨(((Below.refl _ w).alloc (Nat.le_refl _) _).alloc (by simp) _).alloc (by simp; omega) _, hnf, fun E hE hr => ⟨_, _, _, _, _, rfl, ⟨hE _ (Nat.le_refl _) (by simp <;> omega), hE _ (by omega) (by simp <;> omega), hE _ (by omega) (by simp <;> omega)⟩, h1''.cell 0, h2'.cell 0, hn, h3.cell 0, hpc, hp, hr⟩⟩
 have HFI := Lib.hid hfin
 clear hfin
 go_enter Tryz.func66, Tryz.ntmps66
 go_wp2_with fail
 go_ret
 obtain ⟨h1, h3, h2⟩ := HFI.out _ rfl
 exact ⟨_, rfl, h1, ⟨_, _, rfl⟩, h3, h2⟩
end
end Go.Proofs.YtgeofijddhflaaaGreatDoor
