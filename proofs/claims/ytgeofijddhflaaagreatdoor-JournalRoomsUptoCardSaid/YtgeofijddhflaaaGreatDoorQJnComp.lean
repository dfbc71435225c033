/- journal.Compact. Condition: the journal is on a disk of a call's own, within bounds; the library's variables stand as laid. -/
import Derived.Test.YtgeofijddhflaaaGreatDoorQJnSegW
import Derived.Test.YtgeofijddhflaaaGreatDoorQJnSaveP
set_option linter.unusedVariables false
set_option linter.unusedSimpArgs false
namespace Go.Proofs.YtgeofijddhflaaaGreatDoor
open Go.RowKit Go.Maps Oct
def termS (ix : Int) (s : SegP) : Option Int := if 0 ≤ IntKind.i64.wrap (ix - s.first) ∧ IntKind.i64.wrap (ix - s.first) < (s.l.length : Int) then (s.l[(IntKind.i64.wrap (ix - s.first)).toNat]?).map EntP.tm else none
def termW (j : JnP) (ix : Int) : Option Int := if j.base.1 = ix then some j.base.2 else j.segs.findSome? (termS ix)
theorem termW_eq {j : JnP} {ix : Int} (h : ∀ s ∈ j.segs, 0 ≤ s.first ∧ s.first ≤ 9223372036854775806) (h1 : -1 ≤ ix) (h2 : ix ≤ 9223372036854775807) : termW j ix = termAt j ix := by
 unfold termW termAt
 split
 ·rfl
 ·have : ∀ l : List SegP, (∀ s ∈ l, 0 ≤ s.first ∧ s.first ≤ 9223372036854775806) → l.findSome? (termS ix) = l.findSome? fun s => if 0 ≤ ix - s.first ∧ ix - s.first < (s.l.length : Int) then (s.l[(ix - s.first).toNat]?).map EntP.tm else none := by
   intro l
   induction l with
   | nil => intro _; rfl
   | cons s r ih =>
    intro h
    have hs := h s (List.mem_cons_self ..)
    have hw : IntKind.i64.wrap (ix - s.first) = ix - s.first := IntWalk.i64_in _ (by omega)
    rw [List.findSome?_cons, List.findSome?_cons, ih (fun t ht => h t (List.mem_cons_of_mem _ ht))]
    unfold termS
    rw [hw]
  exact this _ h
set_option maxHeartbeats 4000000 in
set_option maxRecDepth 100000 in
theorem jterm_any {w : World} {F : Nat → Prop} {gj g : Nat} {j : JnP} (h : JAt w F gj g j) (hF : ∀ k, F k → k < w.heap.size) (ix : Int) (hix : -9223372036854775808 ≤ ix ∧ ix ≤ 9223372036854775807) :
  Calls Tryz.prog 72 #[.pointer (some ⟨gj, 0, none⟩), .int .i64 ix] w fun e w' => e = .returned (.tuple #[.int .i64 ((termW j ix).getD 0), .bool (termW j ix).isSome]) ∧ Below w.heap.size w w' := by
 have HBASE := Lib.hid h.base
 obtain ⟨ba, hba⟩ : ∃ x, x = j.base.1 := ⟨_, rfl⟩
 obtain ⟨bt, hbt⟩ : ∃ x, x = j.base.2 := ⟨_, rfl⟩
 obtain ⟨R, hR⟩ : ∃ R, R = termW j ix := ⟨_, rfl⟩
 have hR2 : R = if ba = ix then some bt else j.segs.findSome? (termS ix) := by rw [hR, hba, hbt]; rfl
 rw [← hR]
 rw [← hba, ← hbt] at HBASE
 have HRR := Lib.hid hR2
 have hgj := h.lt
 obtain ⟨⟨A, c, ads, h1, h2, h3, h4, h5⟩, h6, _⟩ := h
 have HJ := Lib.hid h1
 have HR3 := Lib.hid h3
 have HS5 := Lib.hid h5
 have HF := Lib.hid hF
 obtain ⟨nl, hnl⟩ : ∃ n, n = j.segs.length := ⟨_, rfl⟩
 rw [← hnl] at h2 h4 h6
 have c2 : w.cell? ⟨gj, 2, none⟩ = some (.slice A nl c) := by rw [hnl]; exact h1.cell 2
 have HNL := Lib.hid hnl
 have HADS := Lib.hid h4
 have HC2 := Lib.hid c2
 clear h1 h3 h4 h5 hF hnl hba hbt hR hR2 c2
 go_enter Tryz.func72, Tryz.ntmps72
 go_wp2_with fail
 refine HBASE.out.mono ?_
 rintro e w1 ⟨rfl, hb1⟩
 have HB1 := Lib.hid hb1
 have hs1 := hb1.size
 have c2 : w1.cell? ⟨gj, 2, none⟩ = some (.slice A nl c) := (hb1.cell (p := ⟨gj, 2, none⟩) hgj).trans HC2.out
 clear hb1 HBASE
 by_cases hbi : ba = ix
 ·have hRv : R = some bt := by rw [HRR.out, if_pos hbi]
  have hbe : (ba == ix) = true := beq_iff_eq.2 hbi
  subst hRv
  clear hbi HRR c2
  go_wp2_with fail
  go_ret2
  exact ⟨rfl, HB1.out⟩
 ·have hbe : (ba == ix) = false := beq_eq_false_iff_ne.2 hbi
  have HRV := Lib.hid (show R = j.segs.findSome? (termS ix) by rw [HRR.out, if_neg hbi])
  clear hbi HRR
  go_wp2_with fail
  go_loopw [25, 9, 10] (fun i _ _ wr => ∃ k : Nat, k ≤ nl ∧ i = .int .i64 k ∧ Hid (R = (j.segs.drop k).findSome? (termS ix)) ∧ Hid (Below w.heap.size w wr)) (fun i _ _ _ => nl - (intOf i).toNat)
  case atStart => exact ⟨0, by omega, rfl, Lib.hid HRV.out, HB1⟩
  case round =>
   obtain ⟨k, hk, rfl, HRK, HB⟩ := hrel
   clear c2
   by_cases hlt : k < nl
   ·have hkl : k < j.segs.length := by rw [← HNL.out]; exact hlt
    have hka : k < ads.length := by rw [HADS.out]; exact hlt
    have hkeep : ∀ q, F q → wr.heap[q]? = w.heap[q]? := fun q hq => HB.out.block q (HF.out q hq)
    obtain ⟨ab, ao, rfl, _, hal, hac⟩ := (HR3.out.keep HB.out.size hkeep) (by rw [List.length_map]; omega)
    have hM := (HS5.out k hka hkl).keep HB.out.size hkeep
    obtain ⟨b, o, Al, cl, rs, Ae, ce, hab, hFb, hltb, d0, d1, d2, d3, _, ⟨k1, k2, _⟩, hre, hrm, _, _⟩ := hM.rd.cells
    have e0 : wr.cell? ⟨ab, ao + k, none⟩ = some (.pointer (some ⟨b, o, none⟩)) := hac k _ (by rw [List.getElem?_map, List.getElem?_eq_getElem hka, hab]; rfl)
    have hdr : j.segs.drop k = j.segs[k] :: j.segs.drop (k + 1) := List.drop_eq_getElem_cons hkl
    have hstep : R = (termS ix j.segs[k]).or ((j.segs.drop (k + 1)).findSome? (termS ix)) := by
     rw [HRK.out, hdr, List.findSome?_cons]
     cases termS ix j.segs[k] <;> rfl
    have hln := hM.len
    have hfi := hM.rd.num.first
    obtain ⟨s, hs⟩ : ∃ s, s = j.segs[k] := ⟨_, rfl⟩
    rw [← hs] at d1 d3 hstep hrm hln hfi k1
    obtain ⟨fi, hfe⟩ : ∃ x, x = s.first := ⟨_, rfl⟩
    obtain ⟨kk, hkk⟩ : ∃ x, x = IntKind.i64.wrap (ix - fi) := ⟨_, rfl⟩
    obtain ⟨sl, hsl⟩ : ∃ x, x = s.l.length := ⟨_, rfl⟩
    rw [← hfe] at d1
    rw [← hsl] at d3 hln k1
    have hts : termS ix s = if 0 ≤ kk ∧ kk < (sl : Int) then (s.l[kk.toNat]?).map EntP.tm else none := by unfold termS; rw [← hfe, ← hkk, ← hsl]
    have HST := Lib.hid hstep
    have HTS := Lib.hid hts
    have HRE := Lib.hid hre
    have HRM := Lib.hid hrm
    have HSL := Lib.hid hsl
    have hkw : IntKind.i64.wrap (ix - fi) = kk := hkk.symm
    clear hac hM hab hdr hstep hs hfe hkk hsl hts hre hrm d0 d2 hFb hfi
    by_cases h0 : 0 ≤ kk
    ·by_cases hl : kk < (sl : Int)
     ·obtain ⟨m, rfl⟩ : ∃ m : Nat, kk = (m : Int) := ⟨kk.toNat, by omega⟩
      have hml : m < sl := by omega
      have hrl : rs.length = sl := by rw [HSL.out, ← HRM.out, List.length_map]
      obtain ⟨eb, eo, rfl, _, hgl, hc⟩ := HRE.out (by rw [erCells_len]; omega)
      have hmr : m < rs.length := by omega
      have e1 : wr.cell? ⟨eb, eo + m * 4 + 1, none⟩ = some (.int .i64 rs[m].e.tm) := hc (m * 4 + 1) _ (by rw [erCells_at _ hmr (by omega)]; rfl)
      have hsm : s.l[m]? = some rs[m].e := by rw [← HRM.out, List.getElem?_map, List.getElem?_eq_getElem hmr]; rfl
      obtain ⟨tm, htm⟩ : ∃ x, x = rs[m].e.tm := ⟨_, rfl⟩
      rw [← htm] at e1
      have hRv : R = some tm := by
       rw [HST.out, HTS.out, if_pos ⟨h0, hl⟩]
       simp only [Int.toNat_natCast, hsm, Option.map_some, htm, Option.some_or]
      subst hRv
      clear HST HTS HRE HRM HSL hc htm hsm HRV HRK hrl hmr
      go_wp2_with fail
      go_ret2
      exact ⟨rfl, HB.out⟩
     ·have HRN := Lib.hid (show R = (j.segs.drop (k + 1)).findSome? (termS ix) by rw [HST.out, HTS.out, if_neg (fun h => hl h.2)]; rfl)
      clear HST HTS HRE HRM HSL HRV HRK
      go_wp2_with fail
      go_roundw
      case rel => exact ⟨k + 1, by omega, by go_num, HRN, HB⟩
      case measure => simp [intOf]; omega
    ·have HRN := Lib.hid (show R = (j.segs.drop (k + 1)).findSome? (termS ix) by rw [HST.out, HTS.out, if_neg (fun h => h0 h.1)]; rfl)
     clear HST HTS HRE HRM HSL HRV HRK
     go_wp2_with fail
     go_roundw
     case rel => exact ⟨k + 1, by omega, by go_num, HRN, HB⟩
     case measure => simp [intOf]; omega
   ·have hRv : R = none := by
     rw [HRK.out, List.drop_eq_nil_of_le (by rw [← HNL.out]; omega)]
     rfl
    subst hRv
    clear HRV HRK
    go_wp2_with fail
    go_ret2
    exact ⟨rfl, HB.out⟩
end Go.Proofs.YtgeofijddhflaaaGreatDoor
set_option linter.unusedVariables false
set_option linter.unusedSimpArgs false
namespace Go.Proofs.YtgeofijddhflaaaGreatDoor
open Go.RowKit Go.Maps Oct
structure ActsS (W : World) (G : Nat → Prop) (nE gj g : Nat) (dv : Value) (vs : List Value) (al : List JAct) : Prop where
 own : Own W nE 98 dv vs
 len : vs.length = al.length
 acts : ∀ i (h : i < vs.length) (h' : i < al.length), JActV W G gj g vs[i] al[i]
 fns : ∀ v ∈ vs, v.oneCell' = true
 lt : ∀ x, G x → x < W.heap.size
 apart : ∀ r, dv.ownBlock = some r → ¬ G r
section
variable {W W' : World} {G : Nat → Prop} {nE gj g : Nat} {dv : Value} {vs : List Value} {al : List JAct}
theorem ActsS.nil : ActsS W (fun _ => False) nE gj g (.slice none 0 0) [] [] := ⟨Own.nil _ _ _, rfl, (fun i h => by simp at h), (fun v hv => by cases hv), (fun _ h => h.elim), (fun _ _ h => h)⟩
theorem ActsS.other {row : Option Nat} (h : ActsS W G nE gj g dv vs al) (hg : W.grownBy W' row) (hne : dv.ownBlock = none ∨ dv.ownBlock ≠ row) (hr : ∀ r, row = some r → ¬ G r) : ActsS W' G nE gj g dv vs al :=
 ⟨Own.kept h.own hg hne, h.len, fun i h3 h4 => (h.acts i h3 h4).keep hg.size (fun x hx => hg.block x (h.lt x hx) (fun e => hr x e.symm hx)), h.fns, fun x hx => Nat.lt_of_lt_of_le (h.lt x hx) hg.size, h.apart⟩
theorem ActsS.below (h : ActsS W G nE gj g dv vs al) (hb : Below W.heap.size W W') : ActsS W' G nE gj g dv vs al :=
 h.other (grown_of_below hb none) (by cases dv.ownBlock <;> simp) (fun r e => (by cases e))
theorem ActsS.pushes {W2 : World} {G' : Nat → Prop} {us : List Value} {bl : List JAct} {dv' : Value} (h : ActsS W G nE gj g dv vs al) (hul : us.length = bl.length) (ha : ∀ i (h : i < us.length) (h' : i < bl.length), JActV W G' gj g us[i] bl[i]) (h1 : ∀ u ∈ us, u.oneCell' = true) (hG : ∀ x, G x → G' x) (hlt : ∀ x, G' x → x < W.heap.size) (hap : ∀ r, dv.ownBlock = some r → ¬ G' r) (hg : W.grownBy W2 dv.ownBlock) (hf : Fresh dv' dv.ownBlock W.heap.size) (hown : Own W2 nE 98 dv' (vs ++ us)) : ActsS W2 G' nE gj g dv' (vs ++ us) (al ++ bl) := by
 have hk : ∀ x, G' x → W2.heap[x]? = W.heap[x]? := fun x hx => hg.block x (hlt x hx) (fun e => hap x e.symm hx)
 refine ⟨hown, by rw [List.length_append, List.length_append, h.len, hul], fun i h3 h4 => ?_, fun x hx => ?_, fun x hx => Nat.lt_of_lt_of_le (hlt x hx) hg.size, fun r hr hx => ?_⟩
 ·by_cases hi : i < vs.length
  ·rw [List.getElem_append_left hi, List.getElem_append_left (by rw [← h.len]; exact hi)]
   exact ((h.acts i hi _).mono hG).keep hg.size hk
  ·rw [List.getElem_append_right (by omega), List.getElem_append_right (by rw [← h.len]; omega)]
   have h5 : i - vs.length < us.length := by rw [List.length_append] at h3; omega
   have h6 := ha (i - vs.length) h5 (by omega)
   have e : i - al.length = i - vs.length := by rw [h.len]
   simp only [e]
   exact h6.keep hg.size hk
 ·rcases List.mem_append.1 hx with hx | hx
  ·exact h.fns x hx
  ·exact h1 x hx
 ·rcases hf with e | ⟨q, e, hq⟩
  ·exact hap r (e ▸ hr) hx
  ·rw [hr] at e
   injection e with e
   have := hlt r hx
   omega
theorem ActsS.step {W6 W8 : World} {a : JAct} {F6 : Nat} {caps6 : Array Value} {dv' : Value} (h : ActsS W G nE gj g dv vs al) (hb6 : Below W.heap.size W W6) (hact : JActV W6 (fun x => G x ∨ (W.heap.size ≤ x ∧ x < W6.heap.size)) gj g (.func (.func F6) #[] caps6) a)
  (hg : (W6.alloc (.cells #[.func (.func F6) #[] caps6] 98)).grownBy W8 dv.ownBlock) (hf : Fresh dv' dv.ownBlock (W6.alloc (.cells #[.func (.func F6) #[] caps6] 98)).heap.size) (hown : Own W8 nE 98 dv' (vs ++ [.func (.func F6) #[] caps6])) :
  ActsS W8 (fun x => G x ∨ (W.heap.size ≤ x ∧ x < W6.heap.size)) nE gj g dv' (vs ++ [.func (.func F6) #[] caps6]) (al ++ [a]) := by
 have hbA := (Below.refl W6.heap.size W6).alloc (Nat.le_refl _) (.cells #[.func (.func F6) #[] caps6] 98)
 have hs6 := hb6.size
 have hsA := hbA.size
 refine ActsS.pushes (h.below (hb6.trans (hbA.mono hs6))) rfl (fun i h1 h2 => ?_) (fun u hu => by rw [List.mem_singleton.1 hu]; rfl) (fun x hx => .inl hx) (fun x hx => ?_) (fun r hr hx => ?_) hg hf hown
 ·obtain rfl : i = 0 := by simp at h1; exact h1
  exact hact.keep hbA.size (fun x hx => hbA.block x (by
   rcases hx with hx | hx
   ·have := h.lt x hx; omega
   ·exact hx.2))
 ·rcases hx with hx | hx
  ·have := h.lt x hx; omega
  ·omega
 ·rcases hx with hx | hx
  ·exact h.apart r hr hx
  ·have := (h.own.lt r hr).2; omega
end
structure SegsAt (W : World) (F : Nat → Prop) (nE : Nat) (v : Value) (ads : List Addr) (ss : List SegP) : Prop where
 own : Own W nE 108 v (ads.map fun a => .pointer (some a))
 len : ads.length = ss.length
 seg : ∀ i (h : i < ads.length) (h' : i < ss.length), SegM W F ads[i] ss[i]
 lt : ∀ x, F x → x < W.heap.size
 apart : ∀ r, v.ownBlock = some r → ¬ F r
section
variable {W W' : World} {F : Nat → Prop} {nE : Nat} {v : Value} {ads : List Addr} {ss : List SegP}
theorem SegsAt.other {row : Option Nat} (h : SegsAt W F nE v ads ss) (hg : W.grownBy W' row) (hne : v.ownBlock = none ∨ v.ownBlock ≠ row) (hr : ∀ r, row = some r → ¬ F r) : SegsAt W' F nE v ads ss :=
 ⟨Own.kept h.own hg hne, h.len, fun i h1 h2 => (h.seg i h1 h2).keep hg.size (fun x hx => hg.block x (h.lt x hx) (fun e => hr x e.symm hx)), fun x hx => Nat.lt_of_lt_of_le (h.lt x hx) hg.size, h.apart⟩
theorem SegsAt.below (h : SegsAt W F nE v ads ss) (hb : Below W.heap.size W W') : SegsAt W' F nE v ads ss :=
 h.other (grown_of_below hb none) (by cases v.ownBlock <;> simp) (fun r e => (by cases e))
theorem SegsAt.push {W2 : World} {F' : Nat → Prop} {v' : Value} {ad : Addr} {s : SegP} (h : SegsAt W F nE v ads ss) (hs : SegM W F' ad s) (hF : ∀ x, F x → F' x) (hlt : ∀ x, F' x → x < W.heap.size) (hap : ∀ r, v.ownBlock = some r → ¬ F' r) (hg : W.grownBy W2 v.ownBlock) (hf : Fresh v' v.ownBlock W.heap.size) (hown : Own W2 nE 108 v' ((ads.map fun a => .pointer (some a)) ++ [.pointer (some ad)])) : SegsAt W2 F' nE v' (ads ++ [ad]) (ss ++ [s]) := by
 have hk : ∀ x, F' x → W2.heap[x]? = W.heap[x]? := fun x hx => hg.block x (hlt x hx) (fun e => hap x e.symm hx)
 refine ⟨by rw [List.map_append]; exact hown, by rw [List.length_append, List.length_append, h.len]; rfl, fun i h3 h4 => ?_, fun x hx => Nat.lt_of_lt_of_le (hlt x hx) hg.size, fun r hr hx => ?_⟩
 ·by_cases hi : i < ads.length
  ·rw [List.getElem_append_left hi, List.getElem_append_left (by rw [← h.len]; exact hi)]
   exact ((h.seg i hi _).mono hF).keep hg.size hk
  ·have e : i = ads.length := by rw [List.length_append] at h3; simp at h3; omega
   subst e
   have e2 : (ss ++ [s])[ads.length] = s := by simp [h.len]
   rw [e2]
   simp only [List.getElem_concat_length]
   exact hs.keep hg.size hk
 ·rcases hf with e | ⟨q, e, hq⟩
  ·exact hap r (e ▸ hr) hx
  ·rw [hr] at e
   injection e with e
   have := hlt r hx
   omega
end
theorem RdF.cutA {w : World} {F : Nat → Prop} {A : Option Addr} {xs : List Value} (h : RdF w F A xs) {k cap : Nat} (hk : k ≤ xs.length) (hc : xs.length ≤ cap) : RdF w F (Go.Proofs.YtgeofijddhflaaaGreatDoor.cutA A k cap) (xs.drop k) := fun h0 => by
 rw [List.length_drop] at h0
 obtain ⟨b, o, rfl, hF, hlt, hcc⟩ := h (by omega)
 refine ⟨b, o + k, ?_, hF, hlt, fun j u hu => ?_⟩
 ·unfold Go.Proofs.YtgeofijddhflaaaGreatDoor.cutA
  rw [if_neg (by omega)]
  simp only [Option.map_some, add_lit]
 ·rw [Nat.add_assoc]
  exact hcc (k + j) u (by rw [← hu, List.getElem?_drop])
theorem SegsAt.jat {W : World} {F : Nat → Prop} {nE gj g k n c : Nat} {A : Option Addr} {ads : List Addr} {ss : List SegP} (h : SegsAt W F nE (.slice A n c) ads ss) (hk : k ≤ ss.length) {t v bad : Int} (hb : Blk W gj 53 #[.int .i64 t, .int .i64 v, .slice (cutA A k c) (n - k) (c - k), .pointer (some ⟨g, 0, none⟩), .int .i64 bad]) (hn : ss.length ≤ 1000000000) (ht : -9223372036854775808 ≤ t ∧ t ≤ 9223372036854775807) (hv : -9223372036854775808 ≤ v ∧ v ≤ 9223372036854775807) :
  JAt W (fun x => F x ∨ (Value.slice A n c).ownBlock = some x) gj g ⟨t, v, ss.drop k, bad⟩ := by
 obtain ⟨A', c', hvv, h1, h2, _⟩ := Own.shape h.own
 injection hvv with _ e1 e2
 rw [List.length_map] at h1 e1
 rw [h.len] at e1 h1
 subst e2
 have hdl : (ss.drop k).length = n - k := by rw [List.length_drop, e1]
 refine ⟨⟨Go.Proofs.YtgeofijddhflaaaGreatDoor.cutA A k c, c - k, ads.drop k, ?_, ?_, ?_, ?_, fun i h3 h4 => ?_⟩, by show (ss.drop k).length ≤ _; omega, ht, hv⟩
 ·show Blk W gj _ #[.int .i64 t, .int .i64 v, .slice _ (ss.drop k).length (c - k), _, _]
  rw [hdl]
  exact hb
 ·show (ss.drop k).length ≤ c - k ∧ c - k ≤ maxLen
  omega
 ·have hr : RdF W (fun x => F x ∨ (Value.slice A n c).ownBlock = some x) A (ads.map fun a => Value.pointer (some a)) := fun h0 => by
   rcases Own.whole h.own with ⟨_, e⟩ | ⟨q, cap, cur, e, _, hlt, _⟩
   ·rw [e] at h0; simp at h0
   ·obtain ⟨A2, c2, e3, _, _, hr⟩ := Own.shape h.own
    obtain ⟨ad, e4, _, hc⟩ := hr h0
    injection e with e5 _ _
    injection e3 with e6 _ _
    rw [← e6, e5] at e4
    injection e4 with e4
    subst e4
    exact ⟨q, 0, e5, .inr (by rw [e5]; rfl), hlt, fun j u hu => by rw [← add_lit]; exact hc j u hu⟩
  rw [List.map_drop]
  exact hr.cutA (by rw [List.length_map, h.len]; exact hk) (by rw [List.length_map, h.len]; exact h1)
 ·show (ads.drop k).length = (ss.drop k).length
  rw [List.length_drop, List.length_drop, h.len]
 ·show SegM W _ _ ((ss.drop k)[i]'h4)
  rw [List.getElem_drop]
  simp only [List.getElem_drop]
  exact (h.seg _ _ _).mono (fun x hx => .inl hx)
theorem Got.rdR {w : World} {base : Nat} {F : Nat → Prop} {A : Option Addr} {n c : Nat} {l : List UInt8} (h : Got w base (.slice A n c) l) (hF : ∀ k, base ≤ k → k < w.heap.size → F k) : RdF w F A (cells l) := fun h0 => by
 obtain ⟨A', c', hv, _, _, hr⟩ := h.shape
 injection hv with e1 _ _
 subst e1
 obtain ⟨ad, e, hlt, hc⟩ := hr h0
 rcases h.row with hr0 | ⟨g, n', cap, cur, hv2, hg, hB, _⟩
 ·injection hr0 with e2 _ _
  rw [e2] at e
  cases e
 ·injection hv2 with e2 _ _
  rw [e2] at e
  injection e with e
  subst e
  refine ⟨g, 0, e2, hF g hg hB.lt, hB.lt, fun j u hu => ?_⟩
  rw [← add_lit]
  exact hc j u hu
theorem segM_new {w : World} {F : Nat → Prop} {b r : Nat} {k first term n : Int} (hb : Blk w b 104 #[.int .i64 k, .int .i64 first, .int .i64 term, .slice none 0 0, .slice (some ⟨r, 0, none⟩) 1 1]) (hr : Blk w r 3 #[.int .i64 n]) (hFb : F b) (hFr : F r) (hk : -9223372036854775808 ≤ k ∧ k ≤ 9223372036854775807) (hf : 0 ≤ first ∧ first ≤ 9223372036854775806) (ht : -9223372036854775808 ≤ term ∧ term ≤ 9223372036854775807) (hn : 0 ≤ n ∧ n ≤ 4611686018427387904) : SegM w F ⟨b, 0, none⟩ ⟨k, first, term, [], [n]⟩ := by
 refine ⟨⟨⟨none, 0, [], some ⟨r, 0, none⟩, 1, fun _ => ⟨b, 0, rfl, hFb, hb.lt, fun j u hu => ?_⟩, Nat.le_refl _, Nat.zero_le _, Nat.le_refl _, by unfold maxLen; omega, RdF.nil, rfl, (fun q hq => by cases hq), fun _ => ⟨r, 0, rfl, hFr, hr.lt, fun j u hu => ?_⟩⟩, ⟨hk, hf, ht, (fun e he => by cases he), fun x hx => by rw [List.mem_singleton.1 hx]; exact hn⟩⟩, rfl, Nat.zero_le _, fun e he => by cases he⟩
 ·rw [Nat.zero_add]; exact blk_cells_at0 hb j u hu
 ·rw [Nat.zero_add]; exact blk_cells_at0 hr j u hu
theorem own_keepB {w w' : World} {B : Nat} {e : TypeId} {size n : Nat} {v : Value} {xs : List Value} (h : w.ownsRow B e size v n xs) (hk : ∀ r, v.ownBlock = some r → w'.heap[r]? = w.heap[r]?) : w'.ownsRow B e size v n xs := by
 refine ⟨h.1, ?_⟩
 rcases h.2 with h2 | ⟨g, cap, cur, hv, hb, hg, r⟩
 ·exact .inl h2
 ·exact .inr ⟨g, cap, cur, hv, hb, (hk g (by rw [hv]; rfl)).trans hg, r⟩
theorem SegsAt.keep {W W' : World} {F : Nat → Prop} {nE : Nat} {v : Value} {ads : List Addr} {ss : List SegP} (h : SegsAt W F nE v ads ss) (hs : W.heap.size ≤ W'.heap.size) (hk : ∀ x, F x ∨ v.ownBlock = some x → W'.heap[x]? = W.heap[x]?) : SegsAt W' F nE v ads ss :=
 ⟨own_keepB h.own (fun r hr => hk r (.inr hr)), h.len, fun i h1 h2 => (h.seg i h1 h2).keep hs (fun x hx => hk x (.inl hx)), fun x hx => Nat.lt_of_lt_of_le (h.lt x hx) hs, h.apart⟩
theorem fromN_le (ss : List SegP) (ix : Int) : ∀ (fuel f : Nat), f ≤ ss.length → fromN ss ix fuel f ≤ ss.length
 | 0, f, h => h
 | fuel + 1, f, h => by
  unfold fromN
  split
  ·rename_i s hs
   have := (List.getElem?_eq_some_iff.1 hs).1
   split
   ·exact fromN_le ss ix fuel (f + 1) (by omega)
   ·exact h
  ·exact h
end Go.Proofs.YtgeofijddhflaaaGreatDoor
set_option linter.unusedVariables false
set_option linter.unusedSimpArgs false
namespace Go.Proofs.YtgeofijddhflaaaGreatDoor
open Go.RowKit Go.Maps Oct
theorem may_short {j : JnP} {l : List EntP} (h : mayJ j l = 0) : ∀ e ∈ l, e.b.length ≤ 65535 := by
 unfold mayJ at h
 split at h
 ·cases h
 ·split at h
  ·cases h
  ·rename_i h2
   intro e he
   refine Nat.le_of_not_lt fun h3 => h2 ?_
   rw [List.any_eq_true]
   exact ⟨e, he, decide_eq_true h3⟩
theorem may_first {j : JnP} {e : EntP} {r : List EntP} (h : mayJ j (e :: r) = 0) : j.base.1 < e.ix ∧ e.ix ≠ 9223372036854775807 := by
 unfold mayJ at h
 split at h
 ·cases h
 ·rename_i h1
  rw [mayRow_cons] at h1
  have h2 : stepB j.base.1 e j.last.1 none = false := by
   cases hs : stepB j.base.1 e j.last.1 none with
   | false => rfl
   | true => rw [hs] at h1; exact absurd rfl h1
  unfold stepB at h2
  simp only [Bool.or_eq_false_iff, decide_eq_false_iff_not] at h2
  obtain ⟨⟨⟨⟨⟨h3, _⟩, h4⟩, _⟩, _⟩, _⟩ := h2
  exact ⟨by omega, h4⟩
theorem SegM.ahead_ok {w : World} {F : Nat → Prop} {ad : Addr} {s : SegP} (h : SegM w F ad s) (ix : Int) : SegB (s.ahead ix) ∧ (s.ahead ix).ends.length = (s.ahead ix).l.length + 1 ∧ (s.ahead ix).l.length ≤ s.l.length ∧ ∀ e ∈ (s.ahead ix).l, e.b.length ≤ 65535 := by
 have h1 : s.aheadN ix ≤ s.l.length := Nat.min_le_right _ _
 refine ⟨⟨h.rd.num.k, h.rd.num.first, h.rd.num.term, fun e he => h.rd.num.ent e (List.mem_of_mem_take he), fun n hn => h.rd.num.ends n (List.mem_of_mem_take hn)⟩, ?_, ?_, fun e he => h.txt e (List.mem_of_mem_take he)⟩
 ·show (s.ends.take _).length = (s.l.take _).length + 1
  rw [List.length_take, List.length_take, h.ends]
  omega
 ·show (s.l.take _).length ≤ _
  rw [List.length_take]
  omega
theorem own_ne_blk {W : World} {B : Nat} {e : TypeId} {size n : Nat} {v : Value} {xs : List Value} {b : Nat} {T : TypeId} {cs : Array Value} (h : W.ownsRow B e size v n xs) (hb : Blk W b T cs) (hT : e ≠ T) : v.ownBlock ≠ some b := fun e' => by
 obtain ⟨cs', hc⟩ := ownsRow_held h e'
 have h1 := hc.symm.trans hb
 injection h1 with h1
 injection h1 with _ h1 _
 exact hT h1
structure CutRel (W w0 : World) (F : Nat → Prop) (j : JnP) (ix : Int) (ads : List Addr) (N wz nE sb gj g : Nat) (rv dv : Value) (vs : List Value) (G : Nat → Prop) (adK : List Addr) (fk ft fr : Int) (al : List JAct) : Prop where
 below : Below nE w0 W
 fresh : Blk W sb 104 #[.int .i64 fk, .int .i64 ix, .int .i64 ft, .slice none 0 0, .slice none 0 0]
 row : Own W nE 108 rv (adK.map fun a => Value.pointer (some a))
 acts : ActsS W G nE gj g dv vs al
 gl : ∀ x, G x → F x ∨ wz ≤ x
 gs : ¬ G sb ∧ ∀ r, rv.ownBlock = some r → ¬ G r
 num : (1 ≤ fk ∧ fk ≤ 1000000000) ∧ (-9223372036854775808 ≤ ft ∧ ft ≤ 9223372036854775807) ∧ 0 ≤ fr ∧ fr ≤ 7000000000000000000
 kind : (N = 0 ∧ adK = [] ∧ fk = 1 ∧ ft = 0 ∧ fr = freedK j N + 0 ∧ al = (goneK j N).map fun x => JAct.rm (jName x.k)) ∨ ∃ (m1 : Nat) (s c : SegP) (cb : Nat) (rsC : List EntR) (vlC veC : Value), N = m1 + 1 ∧ (∃ h : m1 < j.segs.length, s = j.segs[m1]) ∧ c = s.ahead ix ∧ adK = ads.take m1 ++ ([⟨cb, 0, none⟩] : List Addr) ∧ SegW W F nE cb c rsC vlC veC ∧ fk = s.k + 1 ∧ ft = c.last.2 ∧ fr = freedK j N + cutFree s c ∧ al = ((goneK j N).map fun x => JAct.rm (jName x.k)) ++ cutActs s c ∧ (SegB c ∧ c.ends.length = c.l.length + 1 ∧ c.l.length ≤ 100000000 ∧ ∀ e ∈ c.l, e.b.length ≤ 65535) ∧ sb < cb ∧ ¬ G cb ∧ (∀ r, vlC.ownBlock = some r → ¬ G r) ∧ (∀ r, veC.ownBlock = some r → ¬ G r)
def newB (j : JnP) (ix : Int) (N : Nat) : Bool := if N = 0 then true else match j.segs[N - 1]? with | some s => decide (600 ≤ (s.ahead ix).long) | none => true
theorem newB_some {j : JnP} {ix : Int} {m1 : Nat} (h : m1 < j.segs.length) : newB j ix (m1 + 1) = decide (600 ≤ (j.segs[m1].ahead ix).long) := by
 unfold newB
 rw [if_neg (by omega), Nat.add_sub_cancel, List.getElem?_eq_getElem h]
theorem CutRel.below2 {W W' w0 : World} {F : Nat → Prop} {j : JnP} {ix : Int} {ads : List Addr} {N wz nE sb gj g : Nat} {rv dv : Value} {vs : List Value} {G : Nat → Prop} {adK : List Addr} {fk ft fr : Int} {al : List JAct} (h : CutRel W w0 F j ix ads N wz nE sb gj g rv dv vs G adK fk ft fr al) (hF : ∀ q, F q → q < W.heap.size) (hb : Below W.heap.size W W') (hn : nE ≤ W.heap.size) : CutRel W' w0 F j ix ads N wz nE sb gj g rv dv vs G adK fk ft fr al :=
 ⟨h.below.trans (hb.mono hn), h.fresh.below hb h.fresh.lt, Own.below h.row hb (Nat.le_refl _), h.acts.below hb, h.gl, h.gs, h.num, by
  rcases h.kind with h1 | ⟨m1, s, c, cb, rsC, vlC, veC, k1, k2, k3, k4, k5, k6⟩
  ·exact .inl h1
  ·exact .inr ⟨m1, s, c, cb, rsC, vlC, veC, k1, k2, k3, k4, k5.below hF hb, k6⟩⟩
structure SaveMid (W : World) (F : Nat → Prop) (wz nE gj g : Nat) (rv dv : Value) (vs : List Value) (G : Nat → Prop) (al : List JAct) (adsP : List Addr) (ssP : List SegP) (FP : Nat → Prop) (tb : Nat) (s0 : SegP) (rsT : List EntR) (vl ve bv : Value) (bh : List UInt8) : Prop where
 acts : ActsS W G nE gj g dv vs al
 row : Own W nE 108 rv ((adsP ++ ([⟨tb, 0, none⟩] : List Addr)).map fun a => Value.pointer (some a))
 len : adsP.length = ssP.length
 seg : ∀ i (h : i < adsP.length) (h' : i < ssP.length), SegM W FP adsP[i] ssP[i]
 fl : ∀ x, FP x → x < W.heap.size ∧ (F x ∨ nE ≤ x)
 gl : ∀ x, G x → F x ∨ wz ≤ x
 tgt : SegW W F nE tb s0 rsT vl ve
 bytes : Got W nE bv bh
 wr : ∀ x, rv.ownBlock = some x ∨ x = tb ∨ vl.ownBlock = some x ∨ ve.ownBlock = some x ∨ bv.ownBlock = some x ∨ dv.ownBlock = some x → ¬ G x ∧ ¬ FP x
 num : SegB s0 ∧ s0.ends.length = s0.l.length + 1 ∧ s0.l.length ≤ 103000000 ∧ (∀ e ∈ s0.l, e.b.length ≤ 65535) ∧ (1 ≤ s0.k ∧ s0.k ≤ 1000000000)
section
variable {W W' : World} {F F' : Nat → Prop} {wz nE gj g : Nat} {rv dv : Value} {vs : List Value} {G : Nat → Prop} {al : List JAct} {adsP : List Addr} {ssP : List SegP} {FP : Nat → Prop} {tb : Nat} {s0 : SegP} {rsT : List EntR} {vl ve bv : Value} {bh : List UInt8}
theorem SaveMid.below2 (h : SaveMid W F wz nE gj g rv dv vs G al adsP ssP FP tb s0 rsT vl ve bv bh) (hF : ∀ q, F q → q < W.heap.size) (hb : Below W.heap.size W W') : SaveMid W' F wz nE gj g rv dv vs G al adsP ssP FP tb s0 rsT vl ve bv bh :=
 ⟨h.acts.below hb, Own.below h.row hb (Nat.le_refl _), h.len, fun i h1 h2 => (h.seg i h1 h2).keep hb.size (fun q hq => hb.block q (h.fl q hq).1), fun x hx => ⟨Nat.lt_of_lt_of_le (h.fl x hx).1 hb.size, (h.fl x hx).2⟩, h.gl, h.tgt.below hF hb, h.bytes.below hb (Nat.le_refl _), h.wr, h.num⟩
theorem SaveMid.monoF (h : SaveMid W F wz nE gj g rv dv vs G al adsP ssP FP tb s0 rsT vl ve bv bh) (hF : ∀ q, F q → F' q) : SaveMid W F' wz nE gj g rv dv vs G al adsP ssP FP tb s0 rsT vl ve bv bh :=
 ⟨h.acts, h.row, h.len, h.seg, fun x hx => ⟨(h.fl x hx).1, (h.fl x hx).2.imp (hF x) id⟩, fun x hx => (h.gl x hx).imp (hF x) id, h.tgt.mono hF, h.bytes, h.wr, h.num⟩
theorem SaveMid.wrlt (h : SaveMid W F wz nE gj g rv dv vs G al adsP ssP FP tb s0 rsT vl ve bv bh) : ∀ x, rv.ownBlock = some x ∨ x = tb ∨ vl.ownBlock = some x ∨ ve.ownBlock = some x ∨ bv.ownBlock = some x ∨ dv.ownBlock = some x → nE ≤ x ∧ x < W.heap.size := fun x hx => by
 rcases hx with hx | hx | hx | hx | hx | hx
 ·exact h.row.lt x hx
 ·rw [hx]; exact ⟨h.tgt.low, h.tgt.blk.lt⟩
 ·exact World.ownsRow.lt h.tgt.ents x hx
 ·exact World.ownsRow.lt h.tgt.ends x hx
 ·exact ⟨h.bytes.row.base x hx, h.bytes.row.lt x hx⟩
 ·exact h.acts.own.lt x hx
end
theorem own_blkF {w : World} {base : Nat} {e : TypeId} {n c : Nat} {A : Option Addr} {xs : List Value} (h : Own w base e (.slice A n c) xs) : RdF w (fun k => (Value.slice A n c).ownBlock = some k) A xs := fun h0 => by
 obtain ⟨b, o, e1, _, hlt, hc⟩ := (RdF.of_own (F := fun _ => True) h (fun _ _ _ => trivial)) h0
 subst e1
 refine ⟨b, o, rfl, ?_, hlt, hc⟩
 rcases Own.whole h with ⟨h1, _⟩ | ⟨g, cap, cur, h1, _⟩
 ·injection h1 with h1 _ _; cases h1
 ·injection h1 with h1 _ _
  injection h1 with h1
  injection h1 with h1 h2 _
  subst h1 h2
  rfl
theorem row_blkF {w : World} {base : Nat} {e : TypeId} {size n m c : Nat} {A : Option Addr} {xs : List Value} (h : w.ownsRow base e size (.slice A m c) n xs) (hn : n * size = xs.length) : RdF w (fun k => (Value.slice A m c).ownBlock = some k) A xs := fun h0 => by
 obtain ⟨b, o, e1, _, hlt, hc⟩ := (RdF.of_row (F := fun _ => True) h (fun _ _ _ => trivial) hn) h0
 subst e1
 refine ⟨b, o, rfl, ?_, hlt, hc⟩
 rcases h.2 with ⟨h1, _⟩ | ⟨g, cap, cur, h1, _⟩
 ·injection h1 with h1 _ _; cases h1
 ·injection h1 with h1 _ _
  injection h1 with h1
  injection h1 with h1 h2 _
  subst h1 h2
  rfl
theorem SegW.keepB {w w' : World} {F : Nat → Prop} {B b : Nat} {s : SegP} {rs : List EntR} {vl ve : Value} (h : SegW w F B b s rs vl ve) (hs : w.heap.size ≤ w'.heap.size) (hk : ∀ x, F x ∨ x = b ∨ vl.ownBlock = some x ∨ ve.ownBlock = some x → w'.heap[x]? = w.heap[x]?) : SegW w' F B b s rs vl ve :=
 ⟨(hk b (.inr (.inl rfl))).trans h.blk, h.low, own_keepB h.ents (fun r hr => hk r (.inr (.inr (.inl hr)))), h.map, fun q hq => (h.dat q hq).keep hs (fun x hx => hk x (.inl hx)), own_keepB h.ends (fun r hr => hk r (.inr (.inr (.inr hr))))⟩
theorem SegW.segMx {w : World} {F : Nat → Prop} {B b : Nat} {s : SegP} {rs : List EntR} {vl ve : Value} (h : SegW w F B b s rs vl ve) (hn : SegB s) (he : s.ends.length = s.l.length + 1) (hl : s.l.length ≤ 1099511627776) (ht : ∀ e ∈ s.l, e.b.length ≤ 65535) : SegM w (fun x => F x ∨ x = b ∨ vl.ownBlock = some x ∨ ve.ownBlock = some x) ⟨b, 0, none⟩ s := by
 obtain ⟨A1, c1, e1, k1, k2, _⟩ := jrow_shape h.ents
 obtain ⟨A2, c2, e2, k3, k4, _⟩ := Own.shape h.ends
 have hrl : rs.length = s.l.length := by rw [← h.map, List.length_map]
 rw [List.length_map] at k3 e2
 subst e1 e2
 refine ⟨⟨⟨A1, c1, rs, A2, c2, fun _ => ⟨b, 0, rfl, .inr (.inl rfl), h.blk.lt, fun j u hu => ?_⟩, by rw [← hrl]; exact k1, k2, k3, k4, (row_blkF h.ents (by rw [erCells_len]; omega)).mono (fun k hk => .inr (.inr (.inl hk))), h.map, fun q hq => (h.dat q hq).mono (fun k hk => .inl hk), (own_blkF h.ends).mono (fun k hk => .inr (.inr (.inr hk)))⟩, hn⟩, he, hl, ht⟩
 rw [Nat.zero_add]
 refine blk_cells_at0 h.blk j u ?_
 rw [hrl]
 exact hu
theorem last_num {s : SegP} (h : SegB s) : -9223372036854775808 ≤ s.last.2 ∧ s.last.2 ≤ 9223372036854775807 := by
 unfold SegP.last
 rcases List.eq_nil_or_concat s.l with h0 | ⟨r, e, h0⟩
 ·rw [h0]; exact h.term
 ·rw [List.concat_eq_append] at h0
  have := h.ent e (by rw [h0]; simp)
  rw [h0]
  simp only [List.getLast?_append, List.getLast?_singleton, Option.some_or]
  exact this.2.1
theorem SegW.lower {w : World} {F : Nat → Prop} {B B' b : Nat} {s : SegP} {rs : List EntR} {vl ve : Value} (h : SegW w F B b s rs vl ve) (hB : B' ≤ B) : SegW w F B' b s rs vl ve := ⟨h.blk, Nat.le_trans hB h.low, own_low h.ents hB, h.map, h.dat, own_low h.ends hB⟩
theorem share {G X : Prop} (h1 : G → X) (h2 : G) : X := h1 h2
section
variable {P : Program} {md : Region.Mode} {Q : Exit → Act → World → Prop} {S : World → Prop} {l : List Oper} {t : Nat}
theorem heldT_two (i k : Nat) {fuel : Nat} {listed : Array Bool} {a : Act} {w : World} (hi : i < l.length) (hk : k < l.length) (hr : Region.ready md l.toArray listed = [i, k])
  (h1 : ∀ K' : Act → World → Prop, Shut (∀ a w, S w → (S w → wpAnyT P md l.toArray Q S t fuel (listed.setIfInBounds i true) a w) → K' a w) → if Region.wanted l[i] (yielded l.toArray a.tmps) = true then Oper.wp P l[i] a w K' Q else K' (a.put l[i].dst undef) w)
  (h2 : ∀ K' : Act → World → Prop, Shut (∀ a w, S w → (S w → wpAnyT P md l.toArray Q S t fuel (listed.setIfInBounds k true) a w) → K' a w) → if Region.wanted l[k] (yielded l.toArray a.tmps) = true then Oper.wp P l[k] a w K' Q else K' (a.put l[k].dst undef) w) : wpAnyT P md l.toArray Q S t (fuel + 1) listed a w :=
 ⟨fun h0 => absurd (hr ▸ h0) (by simp), fun j hj => by
  rw [hr] at hj
  rcases List.mem_cons.1 hj with rfl | hj
  ·exact wpOp_step (by rw [List.getElem?_toArray, List.getElem?_eq_getElem hi]) (fun K' hK => h1 K' (fun a w hS hW => hK a w ⟨fun _ => hS, hW hS⟩))
  ·obtain rfl := List.mem_singleton.1 hj
   exact wpOp_step (by rw [List.getElem?_toArray, List.getElem?_eq_getElem hk]) (fun K' hK => h2 K' (fun a w hS hW => hK a w ⟨fun _ => hS, hW hS⟩))⟩
end
theorem Got.kind {w : World} {b : Nat} {v : Value} {l : List UInt8} (h : Got w b v l) : ∀ x, v.ownBlock = some x → ∃ cs, Blk w x 5 cs := fun x hx => by
 rcases h.row with h1 | ⟨g', _, _, cur, h1, _, hB, _⟩
 ·rw [h1] at hx; cases hx
 ·rw [h1] at hx
  injection hx with hx
  subst hx
  exact ⟨_, hB⟩
theorem own_ne_got {w : World} {B b : Nat} {e : TypeId} {size n : Nat} {v bv : Value} {xs : List Value} {l : List UInt8} (h : w.ownsRow B e size v n xs) (hg : Got w b bv l) (hT : e ≠ 5) : v.ownBlock = none ∨ v.ownBlock ≠ bv.ownBlock := by
 cases hu : v.ownBlock with
 | none => exact .inl rfl
 | some q =>
  refine .inr fun e' => ?_
  obtain ⟨cs, hB⟩ := hg.kind q e'.symm
  exact own_ne_blk h hB hT hu
theorem wpList_append_gotq {w : World} {ops : Array Oper} {rest : List Oper} {o : Oper} {a : Act} {Q : Exit → Act → World → Prop} (hgd : o.guard = none) (s x : Operand)
  (ho : o.op = .call { callee := .builtin .append, args := #[s, x], argTypes := #[34, 34] })
  (base : Nat) (v : Value) (l : List UInt8) (hs : a.eval s = v) (hgot : Got w base v l) (B : Nat) (A : Option Addr) (c : Nat) (q : List UInt8) (hx : a.eval x = .slice A q.length c) (hrd : Rd w B A (cells q)) (hlen : l.length + q.length ≤ 1099511627776) (hbase : base ≤ w.heap.size)
  (h : ∀ v' w', Got w' base v' (l ++ q) → w.grownBy w' v.ownBlock → (∀ k, v'.ownBlock = some k → v.ownBlock = some k ∨ w.heap.size ≤ k) → wpList Tryz.prog ops Q rest (a.put o.dst v') w') : wpList Tryz.prog ops Q (o :: rest) a w :=
 wpList_plain hgd fun _ hK => wp_append_gotq s x ho base v l hs hgot B A c q hx hrd hlen hbase fun v' w' h1 h2 h3 => hK _ _ (h v' w' h1 h2 h3)
theorem SegsAt.jat0 {W : World} {F : Nat → Prop} {nE gj g n c : Nat} {A : Option Addr} {ads : List Addr} {ss : List SegP} (h : SegsAt W F nE (.slice A n c) ads ss) {t v bad : Int} (hb : Blk W gj 53 #[.int .i64 t, .int .i64 v, .slice A n c, .pointer (some ⟨g, 0, none⟩), .int .i64 bad]) (hn : ss.length ≤ 1000000000) (ht : -9223372036854775808 ≤ t ∧ t ≤ 9223372036854775807) (hv : -9223372036854775808 ≤ v ∧ v ≤ 9223372036854775807) :
  JAt W (fun x => F x ∨ (Value.slice A n c).ownBlock = some x) gj g ⟨t, v, ss, bad⟩ := by
 have hrd := own_blkF h.own
 obtain ⟨A', c', hvv, h1, h2, _⟩ := Own.shape h.own
 injection hvv with _ e1 e2
 rw [List.length_map] at h1 e1
 rw [h.len] at e1 h1
 subst e1 e2
 exact ⟨⟨A, c, ads, hb, ⟨h1, h2⟩, hrd.mono (fun k hk => .inr hk), h.len, fun i h3 h4 => (h.seg i h3 h4).mono (fun x hx => .inl hx)⟩, by show ss.length ≤ _; omega, ht, hv⟩
theorem SegsAt.keep' {W W' : World} {F : Nat → Prop} {nE : Nat} {v : Value} {ads : List Addr} {ss : List SegP} (h : SegsAt W F nE v ads ss) (hs : W.heap.size ≤ W'.heap.size) (hk : ∀ x, F x ∨ v.ownBlock = some x → W'.heap[x]? = W.heap[x]?) : SegsAt W' F nE v ads ss :=
 ⟨own_keepB h.own (fun r hr => hk r (.inr hr)), h.len, fun i h1 h2 => (h.seg i h1 h2).keep hs (fun x hx => hk x (.inl hx)), fun x hx => Nat.lt_of_lt_of_le (h.lt x hx) hs, h.apart⟩
theorem Got.rdO {w : World} {b : Nat} {A : Option Addr} {n c : Nat} {l : List UInt8} (h : Got w b (.slice A n c) l) : RdF w (fun k => (Value.slice A n c).ownBlock = some k) A (cells l) := fun h0 => by
 obtain ⟨A', c', hv, _, _, hr⟩ := h.shape
 injection hv with e1 e2 _
 subst e1
 obtain ⟨ad, e4, hlt, hc⟩ := hr h0
 rcases h.row with h1 | ⟨g', n', cap', cur, h1, _, hB, _⟩
 ·injection h1 with h1 _ _
  rw [h1] at e4; cases e4
 ·injection h1 with h1 _ _
  rw [h1] at e4
  injection e4 with e4
  subst e4 h1
  exact ⟨g', 0, rfl, rfl, hB.lt, fun j u hu => by rw [← add_lit]; exact hc j u hu⟩
theorem ActsS.keepB {W W' : World} {G : Nat → Prop} {nE gj g : Nat} {dv : Value} {vs : List Value} {al : List JAct} (h : ActsS W G nE gj g dv vs al) (hs : W.heap.size ≤ W'.heap.size) (hk : ∀ x, G x ∨ dv.ownBlock = some x → W'.heap[x]? = W.heap[x]?) : ActsS W' G nE gj g dv vs al :=
 ⟨own_keepB h.own (fun r hr => hk r (.inr hr)), h.len, fun i h1 h2 => (h.acts i h1 h2).keep hs (fun x hx => hk x (.inl hx)), h.fns, fun x hx => Nat.lt_of_lt_of_le (h.lt x hx) hs, h.apart⟩
theorem long_cells {w : World} {nE b : Nat} {Ae : Option Addr} {ce : Nat} {ends : List Int} (hc : w.cell? ⟨b, 4, none⟩ = some (.slice Ae ends.length ce)) (ho : Own w nE 3 (.slice Ae ends.length ce) (ends.map (Value.int .i64))) (hne : ends ≠ []) (hl : ends.length ≤ 1099511627776) :
  Calls Tryz.prog 56 #[.pointer (some ⟨b, 0, none⟩)] w fun e w' => e = .returned (.int .i64 (ends.getLastD 0)) ∧ Below w.heap.size w w' := by
 rcases List.eq_nil_or_concat ends with h0 | ⟨r, x, hr⟩
 ·exact absurd h0 hne
 ·rw [List.concat_eq_append] at hr
  subst hr
  obtain ⟨eb, eo, rfl, _, hg2, hcc⟩ := RdF.of_own (F := fun _ => True) ho (fun _ _ _ => trivial) (by simp)
  have e0 := hcc r.length (.int .i64 x) (by simp)
  have hx : (r ++ [x]).getLastD 0 = x := by simp
  rw [hx]
  rw [List.length_append] at hc hl
  simp at hl
  exact jlong_any b 0 r.length eb eo ce x (by omega) w hc e0
section
variable {W W' : World} {F F' : Nat → Prop} {wz nE gj g : Nat} {rv dv : Value} {vs : List Value} {G : Nat → Prop} {al : List JAct} {adsP : List Addr} {ssP : List SegP} {FP : Nat → Prop} {tb : Nat} {s0 : SegP} {rsT : List EntR} {vl ve bv : Value} {bh : List UInt8}
theorem SaveMid.bytesG {bv' : Value} {bh' : List UInt8} (h : SaveMid W F wz nE gj g rv dv vs G al adsP ssP FP tb s0 rsT vl ve bv bh) (hF : ∀ q, F q → q < W.heap.size ∧ bv.ownBlock ≠ some q) (hg : W.grownBy W' bv.ownBlock) (hG : Got W' nE bv' bh') (hf : ∀ k, bv'.ownBlock = some k → bv.ownBlock = some k ∨ W.heap.size ≤ k) : SaveMid W' F wz nE gj g rv dv vs G al adsP ssP FP tb s0 rsT vl ve bv' bh' := by
 have hb := fun x (hx : bv.ownBlock = some x) => h.wr x (.inr (.inr (.inr (.inr (.inl hx)))))
 refine ⟨h.acts.other hg (own_ne_got h.acts.own h.bytes (by decide)) (fun r hr => (hb r hr).1), Own.kept h.row hg (own_ne_got h.row h.bytes (by decide)), h.len, fun i h1 h2 => (h.seg i h1 h2).keep hg.size (fun q hq => hg.block q (h.fl q hq).1 (fun e => (hb q e.symm).2 hq)), fun x hx => ⟨Nat.lt_of_lt_of_le (h.fl x hx).1 hg.size, (h.fl x hx).2⟩, h.gl, h.tgt.keep hg.size (fun k hk => hg.block k (hF k hk).1 (fun e => (hF k hk).2 e.symm)) hg (fun e => ?_) (own_ne_got h.tgt.ents h.bytes (by decide)) (own_ne_got h.tgt.ends h.bytes (by decide)), hG, fun x hx => ?_, h.num⟩
 ·obtain ⟨cs, hB⟩ := h.bytes.kind tb e
  exact blk_ne hB h.tgt.blk (by decide) rfl
 ·rcases hx with hx | hx | hx | hx | hx | hx
  ·exact h.wr x (.inl hx)
  ·exact h.wr x (.inr (.inl hx))
  ·exact h.wr x (.inr (.inr (.inl hx)))
  ·exact h.wr x (.inr (.inr (.inr (.inl hx))))
  ·rcases hf x hx with h1 | h1
   ·exact hb x h1
   ·exact ⟨fun h2 => by have := h.acts.lt x h2; omega, fun h2 => by have := (h.fl x h2).1; omega⟩
  ·exact h.wr x (.inr (.inr (.inr (.inr (.inr hx)))))
theorem SaveMid.entG {W1 W2 W3 W4 : World} {vl' ve' : Value} {q : EntR} {n : Int} (h : SaveMid W F wz nE gj g rv dv vs G al adsP ssP FP tb s0 rsT vl ve bv bh) (hF : ∀ x, F x → x < W.heap.size ∧ x ≠ tb ∧ vl.ownBlock ≠ some x ∧ ve.ownBlock ≠ some x) (hd : DatF W F q.v q.e.b)
  (hb1 : Below W.heap.size W W1) (hg2 : W1.grownBy W2 vl.ownBlock) (hown2 : W2.ownsRow nE 65 4 vl' (rsT.length + 1) (erCells rsT ++ erOne q)) (hf2 : Fresh vl' vl.ownBlock W1.heap.size)
  (hb3 : Below W2.heap.size W2 W3) (hg4 : W3.grownBy W4 ve.ownBlock) (hown4 : Own W4 nE 3 ve' (s0.ends.map (Value.int .i64) ++ [.int .i64 n])) (hf4 : Fresh ve' ve.ownBlock W3.heap.size)
  (hnum : 0 ≤ n ∧ n ≤ 4611686018427387904) (he : (-9223372036854775808 ≤ q.e.ix ∧ q.e.ix ≤ 9223372036854775807) ∧ (-9223372036854775808 ≤ q.e.tm ∧ q.e.tm ≤ 9223372036854775807) ∧ (-9223372036854775808 ≤ q.e.kd ∧ q.e.kd ≤ 9223372036854775807)) (hlen : s0.l.length + 1 ≤ 103000000) (ht : q.e.b.length ≤ 65535) :
  SaveMid ((W4.setCell ⟨tb, 3, none⟩ vl').setCell ⟨tb, 4, none⟩ ve') F wz nE gj g rv dv vs G al adsP ssP FP tb { s0 with l := s0.l ++ [q.e], ends := s0.ends ++ [n] } (rsT ++ [q]) vl' ve' bv bh := by
 have hs1 := hb1.size
 have hs2 := hg2.size
 have hs3 := hb3.size
 have hs4 := hg4.size
 obtain ⟨W6, hW6⟩ : ∃ X, X = (W4.setCell ⟨tb, 3, none⟩ vl').setCell ⟨tb, 4, none⟩ ve' := ⟨_, rfl⟩
 have hg6 : W4.grownBy W6 (some tb) := by rw [hW6]; exact grown_then (grown_setCell W4 tb 3 _) (grown_setCell _ tb 4 _) (.inl rfl)
 rw [← hW6]
 have hs6 := hg6.size
 have htl := h.tgt.blk.lt
 have hvll := fun x e => (World.ownsRow.lt h.tgt.ents x e).2
 have hvel := fun x e => (World.ownsRow.lt h.tgt.ends x e).2
 have k4 : ∀ x, x < W.heap.size → vl.ownBlock ≠ some x → ve.ownBlock ≠ some x → W4.heap[x]? = W.heap[x]? := fun x h1 h2 h3 =>
  (hg4.block x (by omega) (fun e => h3 e.symm)).trans ((hb3.block x (by omega)).trans ((hg2.block x (by omega) (fun e => h2 e.symm)).trans (hb1.block x h1)))
 have k6 : ∀ x, x < W.heap.size → x ≠ tb → vl.ownBlock ≠ some x → ve.ownBlock ≠ some x → W6.heap[x]? = W.heap[x]? := fun x h1 h2 h3 h4 =>
  (hg6.block x (by omega) (fun e => h2 (by injection e))).trans (k4 x h1 h3 h4)
 have hne1 : vl.ownBlock ≠ some tb := fun e => own_ne_blk h.tgt.ents h.tgt.blk (by decide) e
 have hne2 : ve.ownBlock ≠ some tb := fun e => own_ne_blk h.tgt.ends h.tgt.blk (by decide) e
 have hB4 : Blk W4 tb 104 #[.int .i64 s0.k, .int .i64 s0.first, .int .i64 s0.term, vl, ve] := (k4 tb htl hne1 hne2).trans h.tgt.blk
 have hB6 : Blk W6 tb 104 #[.int .i64 s0.k, .int .i64 s0.first, .int .i64 s0.term, vl', ve'] := by rw [hW6]; exact (hB4.set_ 3 vl').set_ 4 ve'
 have hve3 : W3.ownsRow nE 3 1 ve (s0.ends.map (Value.int .i64)).length (s0.ends.map (Value.int .i64)) := by
  have h1 := World.ownsRow.kept (World.ownsRow.kept (World.ownsRow.kept h.tgt.ends (grown_of_below hb1 none) (by cases ve.ownBlock <;> simp)) hg2 (jrow_type_ne h.tgt.ends h.tgt.ents (by decide))) (grown_of_below hb3 none) (by cases ve.ownBlock <;> simp)
  exact h1
 have hvl3 := World.ownsRow.kept hown2 (grown_of_below hb3 none) (by cases vl'.ownBlock <;> simp)
 have hvl4 := World.ownsRow.kept hvl3 hg4 (jrow_type_ne hvl3 hve3 (by decide))
 have hvl6 := World.ownsRow.kept hvl4 hg6 (by
  cases hq : vl'.ownBlock with
  | none => exact .inl rfl
  | some x => exact .inr (fun e => own_ne_blk hvl4 hB4 (by decide) (hq.trans e)))
 have hve6 := Own.kept hown4 hg6 (by
  cases hq : ve'.ownBlock with
  | none => exact .inl rfl
  | some x => exact .inr (fun e => own_ne_blk hown4 hB4 (by decide) (hq.trans e)))
 have kF : ∀ x, F x → W6.heap[x]? = W.heap[x]? := fun x hx => k6 x (hF x hx).1 (hF x hx).2.1 (hF x hx).2.2.1 (hF x hx).2.2.2
 have kG : ∀ x, G x → W6.heap[x]? = W.heap[x]? := fun x hx => k6 x (h.acts.lt x hx) (fun e => (h.wr tb (.inr (.inl rfl))).1 (e ▸ hx)) (fun e => (h.wr x (.inr (.inr (.inl e)))).1 hx) (fun e => (h.wr x (.inr (.inr (.inr (.inl e))))).1 hx)
 have kP : ∀ x, FP x → W6.heap[x]? = W.heap[x]? := fun x hx => k6 x (h.fl x hx).1 (fun e => (h.wr tb (.inr (.inl rfl))).2 (e ▸ hx)) (fun e => (h.wr x (.inr (.inr (.inl e)))).2 hx) (fun e => (h.wr x (.inr (.inr (.inr (.inl e))))).2 hx)
 have kO : ∀ {e : TypeId} {size m : Nat} {v : Value} {xs : List Value}, W.ownsRow nE e size v m xs → e ≠ 104 → e ≠ 65 → e ≠ 3 → ∀ x, v.ownBlock = some x → W6.heap[x]? = W.heap[x]? := fun {e size m v xs} ho h1 h2 h3 x hx => by
  refine k6 x (World.ownsRow.lt ho x hx).2 (fun e => own_ne_blk ho h.tgt.blk h1 (e ▸ hx)) (fun e => ?_) (fun e => ?_)
  ·rcases jrow_type_ne ho h.tgt.ents h2 with h4 | h4
   ·rw [h4] at hx; cases hx
   ·exact h4 (hx.trans e.symm)
  ·rcases jrow_type_ne ho h.tgt.ends h3 with h4 | h4
   ·rw [h4] at hx; cases hx
   ·exact h4 (hx.trans e.symm)
 have hsz : W.heap.size ≤ W6.heap.size := by omega
 refine ⟨h.acts.keepB hsz (fun x hx => hx.elim (kG x) (fun hx => kO h.acts.own (by decide) (by decide) (by decide) x hx)), own_keepB h.row (fun x hx => kO h.row (by decide) (by decide) (by decide) x hx), h.len, fun i h1 h2 => (h.seg i h1 h2).keep hsz kP, fun x hx => ⟨Nat.lt_of_lt_of_le (h.fl x hx).1 hsz, (h.fl x hx).2⟩, h.gl, ⟨hB6, h.tgt.low, ?_, by rw [List.map_append, h.tgt.map]; rfl, fun p hp => ?_, by rw [List.map_append]; exact hve6⟩, h.bytes.kept (fun x hx => ?_) hsz, fun x hx => ?_, ⟨⟨h.num.1.k, h.num.1.first, h.num.1.term, fun e hx => ?_, fun m hm => ?_⟩, ?_, ?_, fun e hx => ?_, h.num.2.2.2.2⟩⟩
 ·rw [List.length_append, erCells_append]
  have e : erCells [q] = erOne q := by unfold erCells; simp
  rw [e]
  exact hvl6
 ·rcases List.mem_append.1 hp with hp | hp
  ·exact (h.tgt.dat p hp).keep hsz kF
  ·rw [List.mem_singleton.1 hp]; exact hd.keep hsz kF
 ·obtain ⟨cs, hB⟩ := h.bytes.kind x hx
  exact k6 x (h.bytes.row.lt x hx) (blk_ne hB h.tgt.blk (by decide)) (own_ne_blk h.tgt.ents hB (by decide)) (own_ne_blk h.tgt.ends hB (by decide))
 ·have hnew : ∀ y, W.heap.size ≤ y → ¬ G y ∧ ¬ FP y := fun y hy => ⟨fun h2 => by have := h.acts.lt y h2; omega, fun h2 => by have := (h.fl y h2).1; omega⟩
  rcases hx with hx | hx | hx | hx | hx | hx
  ·exact h.wr x (.inl hx)
  ·exact h.wr x (.inr (.inl hx))
  ·rcases hf2 with e | ⟨y, e, hy⟩
   ·exact h.wr x (.inr (.inr (.inl (e ▸ hx))))
   ·rw [hx] at e
    injection e with e
    exact hnew x (by omega)
  ·rcases hf4 with e | ⟨y, e, hy⟩
   ·exact h.wr x (.inr (.inr (.inr (.inl (e ▸ hx)))))
   ·rw [hx] at e
    injection e with e
    exact hnew x (by omega)
  ·exact h.wr x (.inr (.inr (.inr (.inr (.inl hx)))))
  ·exact h.wr x (.inr (.inr (.inr (.inr (.inr hx)))))
 ·rcases List.mem_append.1 hx with hx | hx
  ·exact h.num.1.ent e hx
  ·rw [List.mem_singleton.1 hx]; exact he
 ·rcases List.mem_append.1 hm with hm | hm
  ·exact h.num.1.ends m hm
  ·rw [List.mem_singleton.1 hm]; exact hnum
 ·show (s0.ends ++ [n]).length = (s0.l ++ [q.e]).length + 1
  rw [List.length_append, List.length_append, h.num.2.1]
  rfl
 ·show (s0.l ++ [q.e]).length ≤ _
  rw [List.length_append]
  exact hlen
 ·rcases List.mem_append.1 hx with hx | hx
  ·exact h.num.2.2.2.1 e hx
  ·rw [List.mem_singleton.1 hx]; exact ht
theorem SaveMid.segsAt (h : SaveMid W F wz nE gj g rv dv vs G al adsP ssP FP tb s0 rsT vl ve bv bh) (hF : ∀ q, F q → q < W.heap.size ∧ rv.ownBlock ≠ some q) : SegsAt W (fun x => FP x ∨ F x ∨ x = tb ∨ vl.ownBlock = some x ∨ ve.ownBlock = some x) nE rv (adsP ++ [⟨tb, 0, none⟩]) (ssP ++ [s0]) := by
 refine ⟨h.row, by rw [List.length_append, List.length_append, h.len]; rfl, fun i h1 h2 => ?_, fun x hx => ?_, fun r hr hx => ?_⟩
 ·by_cases hi : i < adsP.length
  ·rw [List.getElem_append_left hi, List.getElem_append_left (by rw [← h.len]; exact hi)]
   exact (h.seg i hi _).mono (fun x hx => .inl hx)
  ·have e : i = adsP.length := by rw [List.length_append] at h1; simp at h1; omega
   subst e
   have e2 : (ssP ++ [s0])[adsP.length] = s0 := by simp [h.len]
   rw [e2]
   simp only [List.getElem_concat_length]
   exact (h.tgt.segMx h.num.1 h.num.2.1 (by have := h.num.2.2.1; omega) h.num.2.2.2.1).mono (fun x hx => .inr hx)
 ·rcases hx with hx | hx | hx | hx | hx
  ·exact (h.fl x hx).1
  ·exact (hF x hx).1
  ·rw [hx]; exact h.tgt.blk.lt
  ·exact (World.ownsRow.lt h.tgt.ents x hx).2
  ·exact (World.ownsRow.lt h.tgt.ends x hx).2
 ·rcases hx with hx | hx | hx | hx | hx
  ·exact (h.wr r (.inl hr)).2 hx
  ·exact (hF r hx).2 hr
  ·exact own_ne_blk h.row h.tgt.blk (by decide) (hx ▸ hr)
  ·rcases jrow_type_ne h.row h.tgt.ents (by decide) with h2 | h2
   ·rw [h2] at hr; cases hr
   ·exact h2 (hr.trans hx.symm)
  ·rcases jrow_type_ne h.row h.tgt.ends (by decide) with h2 | h2
   ·rw [h2] at hr; cases hr
   ·exact h2 (hr.trans hx.symm)
theorem SaveMid.dvFar (h : SaveMid W F wz nE gj g rv dv vs G al adsP ssP FP tb s0 rsT vl ve bv bh) (hF : ∀ q, F q → dv.ownBlock ≠ some q) : ∀ x, ((FP x ∨ F x ∨ x = tb ∨ vl.ownBlock = some x ∨ ve.ownBlock = some x) ∨ rv.ownBlock = some x) → dv.ownBlock ≠ some x := fun x hx e => by
 have hne : ∀ {e1 : TypeId} {size m : Nat} {v : Value} {xs : List Value}, W.ownsRow nE e1 size v m xs → 98 ≠ e1 → v.ownBlock = some x → False := fun ho ht hv => by
  rcases jrow_type_ne h.acts.own ho ht with h2 | h2
  ·rw [h2] at e; cases e
  ·exact h2 (e.trans hv.symm)
 rcases hx with (hx | hx | hx | hx | hx) | hx
 ·exact (h.wr x (.inr (.inr (.inr (.inr (.inr e)))))).2 hx
 ·exact hF x hx e
 ·exact own_ne_blk h.acts.own h.tgt.blk (by decide) (hx ▸ e)
 ·exact hne h.tgt.ents (by decide) hx
 ·exact hne h.tgt.ends (by decide) hx
 ·exact hne h.row (by decide) hx
theorem SaveMid.from_ (h : SaveMid W F wz nE gj g rv dv vs G al adsP ssP FP tb s0 rsT vl ve bv bh) {F0 : Nat → Prop} (hF : ∀ q, F q → F0 q ∨ nE ≤ q) : ∀ x, ((FP x ∨ F x ∨ x = tb ∨ vl.ownBlock = some x ∨ ve.ownBlock = some x) ∨ rv.ownBlock = some x) → F0 x ∨ nE ≤ x := fun x hx => by
 rcases hx with (hx | hx | hx | hx | hx) | hx
 ·rcases (h.fl x hx).2 with h1 | h1
  ·exact hF x h1
  ·exact .inr h1
 ·exact hF x hx
 ·exact .inr (hx ▸ h.tgt.low)
 ·exact .inr (World.ownsRow.lt h.tgt.ents x hx).1
 ·exact .inr (World.ownsRow.lt h.tgt.ends x hx).1
 ·exact .inr (h.row.lt x hx).1
end
end Go.Proofs.YtgeofijddhflaaaGreatDoor
set_option linter.unusedVariables false
set_option linter.unusedSimpArgs false
namespace Go.Proofs.YtgeofijddhflaaaGreatDoor
open Go.RowKit Go.Maps Oct
def preC (nw : Bool) (k : Int) (hd : List UInt8) : List JAct := if nw = true then [.app (jName k) hd, .sync (jName k)] else []
theorem newS_k {j : JnP} {ix t : Int} (h : ∀ s ∈ j.segs, 1 ≤ s.k ∧ s.k ≤ 999999999) : 1 ≤ (newS j ix t).k ∧ (newS j ix t).k ≤ 1000000000 := by
 unfold newS
 rcases List.eq_nil_or_concat j.segs with h0 | ⟨r, x, h0⟩
 ·rw [h0]; simp
 ·rw [List.concat_eq_append] at h0
  have := h x (by rw [h0]; simp)
  rw [h0]
  simp only [List.getLast?_append, List.getLast?_singleton, Option.some_or]
  omega
theorem badC_iff {j : JnP} {ix t tv : Int} (h : tv = (termW j ix).getD 0) : badC j ix t ↔ ix < j.base.1 ∨ 9223372036854775805 < ix ∨ t < 0 ∨ (ix = j.base.1 ∧ tv ≠ t) := by
 have e : ix = j.base.1 → (termAt j ix).getD 0 = tv := fun e => by
  rw [h]
  unfold termAt termW
  rw [if_pos e.symm, if_pos e.symm]
 unfold badC
 show _ ∨ 9223372036854775807 - 2 < ix ∨ _ ∨ _ ↔ _
 constructor
 ·rintro (h1 | h1 | h1 | ⟨h1, h2⟩)
  ·exact .inl h1
  ·exact .inr (.inl (by omega))
  ·exact .inr (.inr (.inl h1))
  ·exact .inr (.inr (.inr ⟨h1, by rw [← e h1]; exact h2⟩))
 ·rintro (h1 | h1 | h1 | ⟨h1, h2⟩)
  ·exact .inl h1
  ·exact .inr (.inl (by omega))
  ·exact .inr (.inr (.inl h1))
  ·exact .inr (.inr (.inr ⟨h1, by rw [e h1]; exact h2⟩))
theorem newC_eq {j : JnP} {ix t tv : Int} {isv : Bool} {R : Option Int} (hR : R = termAt j ix) (h : tv = R.getD 0) (hi : isv = R.isSome) : newC j ix t = (decide (j.last.1 < ix) || (isv && (tv != t))) := by
 unfold newC
 rw [← hR, h, hi]
 cases R with
 | none => rfl
 | some x => simp [bne, BEq.beq]
set_option maxHeartbeats 8000000 in
set_option maxRecDepth 100000 in
theorem jcompact_any {w : World} {base g m gj : Nat} {F : Nat → Prop} {d : DkD} {j : JnP} {es : List (Nm × FE)} (h : JnK w base g m gj F d j es) (hbw : base ≤ w.heap.size) {L : Nat} (hok : JDk L d) (hL : L ≤ 100000000000) (hE : ∀ w', Below base w w' → Tab w') (hseg : j.segs.length ≤ 999999999) (hks : ∀ s ∈ j.segs, 1 ≤ s.k ∧ s.k ≤ 999999999)
  (ix t : Int) (hix : -9223372036854775808 ≤ ix ∧ ix ≤ 9223372036854775807) (ht : -9223372036854775808 ≤ t ∧ t ≤ 9223372036854775807) :
  Calls Tryz.prog 17 #[.pointer (some ⟨gj, 0, none⟩), .int .i64 ix, .int .i64 t] w fun e w' => JnKTo w base g m gj es F (compactJ j d ix t) e w' := by
 have hgj := h.jn.lt
 have hFl : ∀ k, F k → k < w.heap.size := fun k hk => (h.apart k hk).2.1
 have HBASE := Lib.hid h.jn.base
 have HLAST := Lib.hid (fun w' (hb : Below w.heap.size w w') => (h.jn.below hFl hb).last)
 have HTERM := Lib.hid (fun w' (hb : Below w.heap.size w w') => jterm_any (h.jn.below hFl hb) (fun k hk => by have := hFl k hk; have := hb.size; omega) ix hix)
 have hbl := JnP.base_low h.jn
 obtain ⟨ba, hba⟩ : ∃ x, x = j.base.1 := ⟨_, rfl⟩
 obtain ⟨bt, hbt⟩ : ∃ x, x = j.base.2 := ⟨_, rfl⟩
 obtain ⟨la, hla⟩ : ∃ x, x = j.last.1 := ⟨_, rfl⟩
 obtain ⟨lt, hlt⟩ : ∃ x, x = j.last.2 := ⟨_, rfl⟩
 obtain ⟨tv, htv⟩ : ∃ x, x = (termW j ix).getD 0 := ⟨_, rfl⟩
 obtain ⟨isv, hisv⟩ : ∃ x, x = (termW j ix).isSome := ⟨_, rfl⟩
 have hbad := badC_iff (t := t) htv
 have hfirst : ∀ s ∈ j.segs, 0 ≤ s.first ∧ s.first ≤ 9223372036854775806 := by
  obtain ⟨⟨A, c, ads, h1, h2, h3, h4, h5⟩, h6, _⟩ := h.jn
  intro s hs
  obtain ⟨i, hi, rfl⟩ := List.getElem_of_mem hs
  exact (h5 i (by omega) hi).rd.num.first
 have hnew : -1 ≤ ix → newC j ix t = (decide (la < ix) || (isv && (tv != t))) := fun h1 => by rw [hla]; exact newC_eq (termW_eq hfirst h1 hix.2) htv hisv
 rw [← hba] at hbad hbl
 rw [← hba, ← hbt] at HBASE
 have HLAST2 : Hid (∀ w', Below w.heap.size w w' → Calls Tryz.prog 40 #[.pointer (some ⟨gj, 0, none⟩)] w' fun e w2 => e = .returned (.tuple #[.int .i64 la, .int .i64 lt]) ∧ Below w'.heap.size w' w2) := Lib.hid (fun w' hb => by rw [hla, hlt]; exact HLAST.out w' hb)
 rw [← htv, ← hisv] at HTERM
 obtain ⟨jb, hjb⟩ : ∃ x, x = j.bad := ⟨_, rfl⟩
 obtain ⟨⟨A, c, ads, h1, h2, h3, h4, h5⟩, h6, hnum⟩ := h.jn
 rw [← hjb] at h1
 obtain ⟨nl, hnl⟩ : ∃ n, n = j.segs.length := ⟨_, rfl⟩
 rw [← hnl] at h2 h4 h6 hseg
 have HJ : Hid (Blk w gj 53 #[.int .i64 j.term, .int .i64 j.vote, .slice A nl c, .pointer (some ⟨g, 0, none⟩), .int .i64 jb]) := Lib.hid (by rw [hnl]; exact h1)
 have HRD := Lib.hid h3
 have HS5 := Lib.hid h5
 have HH := Lib.hid h
 have HOK := Lib.hid hok
 have HE := Lib.hid hE
 have HKS := Lib.hid hks
 have HJB := Lib.hid hjb
 have HNL := Lib.hid hnl
 have HADS := Lib.hid h4
 have HBAD := Lib.hid hbad
 have HNEW := Lib.hid hnew
 have HNUM := Lib.hid hnum
 have HFL := Lib.hid hFl
 clear h h1 h3 h4 h5 h6 hok hE hks hjb hnl hbad hnew hnum hFl HLAST hba hbt hla hlt htv hisv hfirst
 go_enter Tryz.func17, Tryz.ntmps17
 go_wp2_with fail
 refine HBASE.out.mono ?_
 rintro e w1 ⟨rfl, hb1⟩
 have HB1 := Lib.hid hb1
 have HLA := Lib.hid (HLAST2.out w1 hb1)
 clear hb1 HBASE HLAST2
 go_wp2_with fail
 refine HLA.out.mono ?_
 rintro e w2 ⟨rfl, hb2⟩
 have HB2 := Lib.hid (HB1.out.trans (hb2.mono HB1.out.size))
 have HTE := Lib.hid (HTERM.out w2 HB2.out)
 clear hb2 HLA HB1 HTERM
 go_wp2_with fail
 refine HTE.out.mono ?_
 rintro e w3 ⟨rfl, hb3⟩
 have HB3 := Lib.hid (HB2.out.trans (hb3.mono HB2.out.size))
 have hs3 := HB3.out.size
 clear hb3 HTE HB2
 have HJ3 := Lib.hid (HJ.out.below HB3.out hgj)
 have j4 : w3.cell? ⟨gj, 4, none⟩ = some (.int .i64 jb) := HJ3.out.cell 4
 by_cases hb : jb = 0
 ·subst hb
  by_cases hbc : badC j ix t
  ·have HR := Lib.hid (show compactJ j d ix t = (1, j, d) by rw [compactJ_eq, if_neg (by rw [← HJB.out]; simp), if_pos hbc])
   have HC := Lib.hid (HBAD.out.1 hbc)
   clear hbc HNEW
   by_cases h1 : ix < ba
   ·go_wp2_with fail
    go_ret
    exact HH.out.same HB3.out HR.out
   ·by_cases h2 : 9223372036854775805 < ix
    ·go_wp2_with fail
     go_ret
     exact HH.out.same HB3.out HR.out
    ·by_cases h3 : t < 0
     ·go_wp2_with fail
      go_ret
      exact HH.out.same HB3.out HR.out
     ·have h4 : ix = ba ∧ tv ≠ t := by
       rcases HC.out with h | h | h | h
       ·exact absurd h h1
       ·exact absurd h h2
       ·exact absurd h h3
       ·exact h
      have h5 : (ix == ba) = true := beq_iff_eq.2 h4.1
      have h6 : (tv != t) = true := bne_iff_ne.2 h4.2
      clear h4 HC
      go_wp2_with fail
      go_ret
      exact HH.out.same HB3.out HR.out
  ·have hnb := fun h => hbc (HBAD.out.2 h)
   have h1 : ¬ ix < ba := fun h => hnb (.inl h)
   have h2 : ¬ 9223372036854775805 < ix := fun h => hnb (.inr (.inl h))
   have h3 : ¬ t < 0 := fun h => hnb (.inr (.inr (.inl h)))
   have h4 : ¬ (ix = ba ∧ tv ≠ t) := fun h => hnb (.inr (.inr (.inr h)))
   have HR := Lib.hid (show compactJ j d ix t = compactR j d ix t (newC j ix t) (newS j ix t) by rw [compactJ_eq, if_neg (by rw [← HJB.out]; simp), if_neg hbc])
   have HNW := Lib.hid (HNEW.out (by omega))
   clear hnb hbc HBAD HNEW
   go_upto_region 9 with fail
   go_cut [52] from 60 to 67 (fun c wx => c = .bool false ∧ wx = w3)
   case first =>
    by_cases h5 : ix = ba
    ·have h6 : (ix == ba) = true := beq_iff_eq.2 h5
     have h7 : (tv != t) = false := by rw [bne_eq_false_iff_eq]; exact Classical.byContradiction fun h => h4 ⟨h5, h⟩
     clear h4 h5
     go_wp2_with fail
     go_meet
     exact ⟨rfl, rfl⟩
    ·have h6 : (ix == ba) = false := beq_eq_false_iff_ne.2 h5
     clear h4 h5
     go_wp2_with fail
     go_meet
     exact ⟨rfl, rfl⟩
   case rest =>
    obtain ⟨rfl, rfl⟩ := hcut
    have j2 : wc.cell? ⟨gj, 2, none⟩ = some (.slice A nl c) := HJ3.out.cell 2
    have HCL := Lib.hid (jcloneS_any A nl c (ads.map fun a => .pointer (some a)) wc ((HRD.out.rd.below HB3.out).more hs3) (by rw [List.length_map, HADS.out]; omega) (fun u hu => by obtain ⟨a, _, rfl⟩ := List.mem_map.1 hu; rfl) (by omega))
    clear j4 h4
    go_wp2_with fail
    refine HCL.out.mono ?_
    rintro e w4 ⟨v4, rfl, hown4, hb4⟩
    obtain ⟨A4, c4, hv4, k1, k2, _⟩ := jrow_shape hown4
    subst hv4
    have HB4 := Lib.hid (HB3.out.trans (hb4.mono hs3))
    have hs4 := HB4.out.size
    have HSA : Hid (SegsAt w4 F w.heap.size (.slice A4 nl c4) ads j.segs) := Lib.hid ⟨by
      unfold Own
      rw [List.length_map, HADS.out]
      exact own_low hown4 hs3, by rw [HADS.out, HNL.out], fun i h1 h2 => (HS5.out i h1 h2).keep hs4 (fun k hk => HB4.out.block k (HFL.out k hk)), fun k hk => by have := HFL.out k hk; omega, fun r hr hf => by have := (World.ownsRow.lt hown4 r hr).1; have := HFL.out r hf; omega⟩
    clear hown4 hb4 HCL j2 HRD HS5 HJ3
    obtain ⟨nw, hnw⟩ : ∃ b, b = newC j ix t := ⟨_, rfl⟩
    rw [← hnw] at HR HNW
    have HNW2 := Lib.hid hnw
    clear hnw
    go_upto_region 14 with fail
    go_cut [84] from 74 to 84 (fun c wx => c = .bool nw ∧ wx = w4)
    case first =>
     by_cases h5 : la < ix
     ·have hn : nw = true := by rw [HNW.out]; simp [h5]
      subst hn
      clear HNW
      go_wp2_with fail
      go_meet
      exact ⟨rfl, rfl⟩
     ·cases isv with
      | false =>
       have hn : nw = false := by rw [HNW.out]; simp [h5]
       subst hn
       clear HNW
       go_wp2_with fail
       go_meet
       exact ⟨rfl, rfl⟩
      | true =>
       by_cases h6 : tv = t
       ·have h7 : (tv != t) = false := by rw [bne_eq_false_iff_eq]; exact h6
        have hn : nw = false := by rw [HNW.out, h7]; simp [h5]
        subst hn
        clear HNW h6
        go_wp2_with fail
        go_meet
        exact ⟨rfl, rfl⟩
       ·have h7 : (tv != t) = true := bne_iff_ne.2 h6
        have hn : nw = true := by rw [HNW.out, h7]; simp
        subst hn
        clear HNW h6
        go_wp2_with fail
        go_meet
        exact ⟨rfl, rfl⟩
    case rest =>
     obtain ⟨rfl, rfl⟩ := hcut
     clear HNW
     go_upto_if 84 with fail
     obtain ⟨sN, hsN⟩ : ∃ s, s = newS j ix t := ⟨_, rfl⟩
     obtain ⟨hd, hhd⟩ : ∃ l, l = jHead (ix + 1) t := ⟨_, rfl⟩
     have HSN := Lib.hid hsN
     have HHD := Lib.hid hhd
     clear hsN hhd
     go_cut [13, 14, 15] from 85 to 146 (fun c13 c14 c15 wx => ∃ (A5 : Option Addr) (c5 fr : Nat) (dv : Value) (ss : List SegP) (ads5 : List Addr) (vs : List Value) (F5 G : Nat → Prop), c13 = .slice A5 ss.length c5 ∧ c14 = dv ∧ c15 = .int .i64 fr ∧ ss.length ≤ 1000000000 ∧ fr ≤ ss.length ∧ vs.length ≤ 2 ∧ Hid (ss = (if nw = true then j.segs ++ [sN] else j.segs) ∧ fr = (if nw = true then j.segs.length else 0) ∧ (nw = true → ¬ 999999999 < sN.k ∧ ¬ d.free < (hd.length : Int) ∧ hd.length ≤ 1048600)) ∧ Hid (Below w.heap.size w wx) ∧ Hid (SegsAt wx F5 w.heap.size (.slice A5 ss.length c5) ads5 ss) ∧ Hid (ActsS wx G w.heap.size gj g dv vs (preC nw sN.k hd)) ∧ Hid ((∀ r, (Value.slice A5 ss.length c5).ownBlock = some r → ¬ G r) ∧ (∀ r, dv.ownBlock = some r → ¬ F5 r) ∧ (∀ x, G x → w.heap.size ≤ x) ∧ (∀ x, F5 x → F x ∨ w.heap.size ≤ x)))
     case first =>
      cases nw with
      | false =>
       go_wp2_with fail
       go_meet
       refine ⟨A4, c4, 0, .slice none 0 0, j.segs, ads, [], F, fun _ => False, by rw [HNL.out], rfl, rfl, by rw [← HNL.out]; omega, by omega, by simp, Lib.hid ⟨rfl, rfl, (fun h => by cases h)⟩, HB4, Lib.hid (by rw [← HNL.out]; exact HSA.out), Lib.hid ActsS.nil, Lib.hid ⟨(fun _ _ h => h), (fun r hr => by cases hr), (fun _ h => h.elim), (fun x hx => .inl hx)⟩⟩
      | true =>
       have hwi : IntKind.i64.wrap (ix + 1) = ix + 1 := IntWalk.i64_in _ (by omega)
       obtain ⟨wA, hwA⟩ : ∃ W, W = wc.alloc (.cells #[.int .i64 1, .int .i64 (ix + 1), .int .i64 t, .slice none 0 0, .slice none 0 0] 104) := ⟨_, rfl⟩
       have hbA : Below wc.heap.size wc wA := by rw [hwA]; exact (Below.refl _ wc).alloc (Nat.le_refl _) _
       have hkA : Blk wA wc.heap.size 104 #[.int .i64 1, .int .i64 (ix + 1), .int .i64 t, .slice none 0 0, .slice none 0 0] := by rw [hwA]; exact Blk.new wc _ _
       obtain ⟨sb, hsb⟩ : ∃ n, n = wc.heap.size := ⟨_, rfl⟩
       rw [← hsb] at hbA hkA
       have HBA := Lib.hid hbA
       have HKA := Lib.hid hkA
       have HWA := Lib.hid hwA
       have HSB := Lib.hid hsb
       have hsbw : w.heap.size ≤ sb := by omega
       have hsA := hbA.size
       have hsA2 := hkA.lt
       have hz0 := hkA.frozen 0
       have HGO := Lib.hid (fun wx (hb : Below sb wc wx) => And.intro (HB4.out.trans (hb.mono hsbw)) (HSA.out.below (hsb ▸ hb)))
       have HRW := Lib.hid (show ∀ r, (Value.slice A4 nl c4).ownBlock = some r → r < sb from fun r hr => by rw [hsb]; exact (HSA.out.own.lt r hr).2)
       have HKN := Lib.hid (show 1 ≤ sN.k ∧ sN.k ≤ 1000000000 by rw [HSN.out]; exact newS_k HKS.out)
       clear hwA hbA hkA hsb hs4
       go_upto_region 16 with fail
       rw [← HWA.out, ← HSB.out]
       go_upto_if 92 with fail
       go_cut [] from 90 to 105 (fun wx => Hid (Below sb wc wx) ∧ Hid (Blk wx sb 104 #[.int .i64 sN.k, .int .i64 (ix + 1), .int .i64 t, .slice none 0 0, .slice none 0 0]))
       case first =>
        by_cases h0 : nl = 0
        ·have hk1 : sN.k = 1 := by
          have h1 : j.segs = [] := List.eq_nil_of_length_eq_zero (by rw [← HNL.out]; exact h0)
          rw [HSN.out]
          unfold newS
          rw [h1]
          rfl
         have HK1 := Lib.hid hk1
         have hn0 : ¬ (0 : Int) < (nl : Int) := by omega
         clear hk1 h0
         go_wp2_with fail
         go_meet
         exact ⟨HBA, Lib.hid (by rw [HK1.out]; exact HKA.out)⟩
        ·obtain ⟨lm, hm⟩ : ∃ lm, lm = nl - 1 := ⟨_, rfl⟩
         have hmn : lm < nl := by omega
         have hmn2 : (lm : Int) < (nl : Int) := by omega
         have hsub : (nl : Int) - 1 = (lm : Int) := by omega
         have hwm : IntKind.i64.wrap (lm : Int) = (lm : Int) := IntWalk.i64_in _ (by omega)
         have hpos : (0 : Int) < (nl : Int) := by omega
         have hml : lm < j.segs.length := by rw [← HNL.out]; exact hmn
         have hma : lm < ads.length := by rw [HADS.out]; exact hmn
         have hlast : sN.k = j.segs[lm].k + 1 := by
          rw [HSN.out]
          unfold newS
          have e : j.segs.getLast? = some j.segs[lm] := by
           rw [List.getLast?_eq_getElem?, ← HNL.out, ← hm, List.getElem?_eq_getElem hml]
          rw [e]
         have hkm := HKS.out j.segs[lm] (List.getElem_mem hml)
         obtain ⟨ab, ao, e4, _, hal, hac⟩ := (RdF.of_own (F := fun _ => True) HSA.out.own (fun _ _ _ => trivial)) (by rw [List.length_map]; omega)
         subst e4
         obtain ⟨b, o, Al, cl, rs, Ae, ce, hab, hFb, hltb, d0, _⟩ := (HSA.out.seg lm hma hml).rd.cells
         have e0 : wA.cell? ⟨ab, ao + lm, none⟩ = some (.pointer (some ⟨b, o, none⟩)) := (HBA.out.cell (p := ⟨ab, ao + lm, none⟩) (by show ab < sb; rw [HSB.out]; exact hal)).trans (hac lm _ (by rw [List.getElem?_map, List.getElem?_eq_getElem hma, hab]; rfl))
         obtain ⟨kl, hkl⟩ : ∃ x, x = j.segs[lm].k := ⟨_, rfl⟩
         rw [← hkl] at d0 hlast hkm
         have f0 : wA.cell? ⟨b, o, none⟩ = some (.int .i64 kl) := (HBA.out.cell (p := ⟨b, o, none⟩) (by show b < sb; rw [HSB.out]; exact hltb)).trans d0
         have hwk : IntKind.i64.wrap (kl + 1) = kl + 1 := IntWalk.i64_in _ (by omega)
         have s0 : wA.cell? ⟨sb, 0, none⟩ = some (.int .i64 1) := HKA.out.cell 0
         have HLS := Lib.hid hlast
         clear hm hlast hkm hac hab d0 hkl h0
         go_wp2_with fail
         go_meet
         refine ⟨Lib.hid (HBA.out.grown (grown_setCell wA sb 0 (.int .i64 (kl + 1))) (by omega) (fun k hk => by injection hk with hk; omega)), Lib.hid ?_⟩
         rw [HLS.out]
         exact HKA.out.set_ 0 (.int .i64 (kl + 1))
       case rest =>
        obtain ⟨HB5, HK5⟩ := hcut
        clear HBA HKA HWA hz0 hsA hsA2 HSA HB4
        have HBW5 := Lib.hid (HGO.out _ HB5.out).1
        have HSA5 := Lib.hid (HGO.out _ HB5.out).2
        have hkb := HK5.out.lt
        have hs5 := HBW5.out.size
        have HHE := Lib.hid (jhead_any sb 0 (ix + 1) t (by omega) ht wc (HK5.out.cell 1) (HK5.out.cell 2) hkb)
        go_wp2_with fail
        refine HHE.out.mono ?_
        rintro e w6 ⟨v6, rfl, hg6, hb6⟩
        rw [← HHD.out] at hg6
        obtain ⟨A6, c6, hv6, p1, p2, _⟩ := hg6.shape
        subst hv6
        have hhl : hd.length ≤ 1048600 := by
         rw [HHD.out]
         refine closeS_lenJ ?_
         have h1 : (encI (ix + 1)).length ≤ 10 := by
          unfold encI
          split
          ·simp
          ·exact enc_len _ (by omega)
         have h2 : (numsS [t]).length ≤ 10 := numsS_len (z := [t]) (by intro n hn; obtain rfl := List.mem_singleton.1 hn; exact ht)
         rw [List.length_append]
         omega
        have HG6 := Lib.hid hg6
        have hs6 := hb6.size
        have hk6 := HK5.out.below hb6 hkb
        have z6 := hk6.frozen 4
        obtain ⟨wI, hwI⟩ : ∃ W, W = w6.alloc (.cells #[.int .i64 hd.length] 3) := ⟨_, rfl⟩
        have hbI : Below w6.heap.size w6 wI := by rw [hwI]; exact (Below.refl _ w6).alloc (Nat.le_refl _) _
        have hrI : Blk wI w6.heap.size 3 #[.int .i64 hd.length] := by rw [hwI]; exact Blk.new w6 _ _
        have hkI := hk6.below hbI (by omega)
        obtain ⟨rI, hrIe⟩ : ∃ n, n = w6.heap.size := ⟨_, rfl⟩
        rw [← hrIe] at hrI
        have hgI := grown_setCell wI sb 4 (.slice (some ⟨rI, 0, none⟩) 1 1)
        obtain ⟨w7, hw7⟩ : ∃ W, W = wI.setCell ⟨sb, 4, none⟩ (.slice (some ⟨rI, 0, none⟩) 1 1) := ⟨_, rfl⟩
        have HK7 : Hid (Blk w7 sb 104 #[.int .i64 sN.k, .int .i64 (ix + 1), .int .i64 t, .slice none 0 0, .slice (some ⟨rI, 0, none⟩) 1 1]) := Lib.hid (by rw [hw7]; exact hkI.set_ 4 _)
        rw [← hw7] at hgI
        have HR7 := Lib.hid (hrI.grown hgI (by intro e; injection e with e; omega))
        have hsI := hbI.size
        have hb67 : Below sb w6 w7 := (hbI.mono (by omega)).grown hgI (by omega) (fun k hk => by injection hk with hk; omega)
        have HG7 := Lib.hid ((HG6.out.below hbI (Nat.le_refl _)).kept (fun q hq => hgI.block q ((HG6.out.below hbI (Nat.le_refl _)).row.lt q hq) (fun e => by injection e with e; have := HG6.out.row.base q hq; omega)) hgI.size)
        have HB7 := Lib.hid (HB5.out.trans ((hb6.mono (by omega)).trans hb67))
        have sI : (w6.alloc (.cells #[.int .i64 hd.length] 3)).cell? ⟨sb, 4, none⟩ = some (.slice none 0 0) := by rw [← hwI]; exact hkI.cell 4
        have zI : (w6.alloc (.cells #[.int .i64 hd.length] 3)).frozen? ⟨sb, 4, none⟩ = false := by rw [← hwI]; exact hkI.frozen 4
        have HW7 := Lib.hid (show w7 = (w6.alloc (.cells #[.int .i64 hd.length] 3)).setCell ⟨sb, 4, none⟩ (.slice (some ⟨w6.heap.size, 0, none⟩) 1 1) by rw [hw7, hwI, hrIe])
        have hs67 := hb67.size
        have hrI7 : rI < w7.heap.size ∧ wc.heap.size ≤ rI := ⟨HR7.out.lt, by rw [hrIe]; exact hs6⟩
        clear hg6 hb6 hk6 hwI hbI hrI hkI hrIe hgI hw7 hb67 z6 HHE HG6
        go_upto_region 20 with fail
        rw [← HW7.out]
        have s70 : w7.cell? ⟨sb, 0, none⟩ = some (.int .i64 sN.k) := HK7.out.cell 0
        have HBW7 := Lib.hid (HGO.out _ HB7.out).1
        have j73 : w7.cell? ⟨gj, 3, none⟩ = some (.pointer (some ⟨g, 0, none⟩)) := (HJ.out.below HBW7.out hgj).cell 3
        clear sI zI HW7
        by_cases hmax : 999999999 < sN.k
        ·have HR1 := Lib.hid (show compactJ j d ix t = (1, j, d) by rw [HR.out]; unfold compactR; rw [← HSN.out, if_pos ⟨rfl, hmax⟩])
         go_wp2_with fail
         go_ret
         exact HH.out.same HBW7.out HR1.out
        ·have HH7 := Lib.hid (HH.out.below HBW7.out)
         have hfr := free_any HH7.out.disk (by rw [HH.out.fs]; have := HOK.out.sz; omega)
         rw [HH.out.fs] at hfr
         obtain ⟨fr, hfre⟩ : ∃ x, x = d.room - sizes d.fs := ⟨_, rfl⟩
         rw [← hfre] at hfr
         have HFR := Lib.hid hfr
         have HFE := Lib.hid (show d.free = fr from hfre.symm)
         clear hfr hfre
         go_wp2_with fail
         refine HFR.out.mono ?_
         rintro e w8 ⟨rfl, hb8⟩
         have hs8 := hb8.size
         have HB8 := Lib.hid (HB7.out.trans (hb8.mono (by omega)))
         have HK8 := Lib.hid (HK7.out.below hb8 HK7.out.lt)
         have HR8 := Lib.hid (HR7.out.below hb8 hrI7.1)
         have HG8 := Lib.hid (HG7.out.below hb8 (Nat.le_refl _))
         have HBW8 := Lib.hid (HGO.out _ HB8.out).1
         clear hb8 HFR HB7 HK7 HR7 HG7 HBW7 HH7 s70 j73 HJ
         by_cases hroom : fr < (hd.length : Int)
         ·have HR2 := Lib.hid (show compactJ j d ix t = (52, j, d) by rw [HR.out]; unfold compactR; rw [← HSN.out, if_neg (fun h => by omega), if_pos ⟨rfl, by rw [HFE.out, ← HHD.out]; exact hroom⟩])
          go_wp2_with fail
          go_ret
          exact HH.out.same HBW8.out HR2.out
         ·have hqn := jName_len sN.k (by have := HKN.out; omega)
          have HT8 := Lib.hid (HE.out w8 (HBW8.out.mono hbw))
          have HNA := Lib.hid (jname_any sb 0 sN.k (by have := HKN.out; omega) w8 (HK8.out.cell 0) HT8.out)
          obtain ⟨nm, hnm⟩ : ∃ n, n = jName sN.k := ⟨_, rfl⟩
          have HNM := Lib.hid hnm
          rw [← hnm] at HNA hqn
          have HOKN := Lib.hid (And.intro hmax (show ¬ d.free < (hd.length : Int) by rw [HFE.out]; exact hroom))
          have hgj8 : gj < sb := by omega
          clear hnm HT8 HR
          go_wp2_with fail
          clear hroom hmax
          refine HNA.out.mono ?_
          rintro e w9 ⟨rfl, hb9⟩
          have hs9 := hb9.size
          have HG9 := Lib.hid (HG8.out.below hb9 (Nat.le_refl _))
          have HB9 := Lib.hid hb9
          clear hb9 HNA
          go_wp2_with fail
          refine (show Calls _ _ _ w9 _ from jmk_put (gj := gj) (g := g) nm (by omega) hd A6 c6 p1 (by omega) w9).mono ?_
          rintro e w10 ⟨vP, rfl, hb10, ⟨FP, capsP, rfl⟩, _, hactP⟩
          have hs10 := hb10.size
          have HG10 := Lib.hid (HG9.out.below hb10 (Nat.le_refl _))
          have HB10 := Lib.hid (HB9.out.trans (hb10.mono hs9))
          have HJP := Lib.hid (hactP (fun x => sb ≤ x ∧ x < w10.heap.size) (fun x h1 h2 => ⟨by omega, h2⟩) (HG10.out.rdR (fun x h1 h2 => ⟨by omega, h2⟩)))
          have HK10 := Lib.hid (HK8.out.below HB10.out HK8.out.lt)
          have HNA2 := Lib.hid (jname_any sb 0 sN.k (by have := HKN.out; omega) w10 (HK10.out.cell 0) (HE.out w10 ((HBW8.out.trans (HB10.out.mono (by omega))).mono hbw)))
          rw [← HNM.out] at HNA2
          clear hb10 hactP HB9 HG9 HG8 HK10
          go_wp2_with fail
          refine HNA2.out.mono ?_
          rintro e w11 ⟨rfl, hb11⟩
          have hs11 := hb11.size
          have HB11 := Lib.hid hb11
          clear hb11 HNA2
          go_wp2_with fail
          refine (show Calls _ _ _ w11 _ from jmk_sync (gj := gj) (g := g) nm (by omega) w11).mono ?_
          rintro e w12 ⟨vS, rfl, hb12, ⟨FS, capsS, rfl⟩, _, hactS⟩
          have hs12 := hb12.size
          have HB1012 := Lib.hid (HB11.out.trans (hb12.mono hs11))
          have HB12 := Lib.hid (HB10.out.trans (HB1012.out.mono (by omega)))
          have HJS := Lib.hid (hactS (fun x => sb ≤ x ∧ x < w12.heap.size) (fun x h1 h2 => ⟨by omega, h2⟩))
          have HJP2 := Lib.hid ((HJP.out.keep HB1012.out.size (fun x hx => HB1012.out.block x hx.2)).mono (E' := fun x => sb ≤ x ∧ x < w12.heap.size) (fun x hx => ⟨hx.1, by omega⟩))
          clear hb12 hactS HJP HB11 HB10
          have hbF : Below w12.heap.size w12 (w12.alloc (.cells #[.func (.func FP) #[] capsP, .func (.func FS) #[] capsS] 98)) := (Below.refl _ w12).alloc (Nat.le_refl _) _
          have hsF := hbF.size
          have HRA := Lib.hid (rd_lit w12 98 [.func (.func FP) #[] capsP, .func (.func FS) #[] capsS])
          have HBF := Lib.hid hbF
          clear hbF
          go_upto_region 25 with (at_builtin; go_must (refine wpList_append_any rfl (.tmp 129) (.tmp 139) 110 rfl w.heap.size 98 .nilFunc 8 Tryz.underlying110 info_fnJ rfl _ [] rfl (Own.nil _ _ _) (w12.heap.size + 1) (some ⟨w12.heap.size, 0, none⟩) 2 2 [.func (.func FP) #[] capsP, .func (.func FS) #[] capsS] rfl rfl HRA.out (by simp [Value.oneCell']) (by unfold maxLen; simp) (by simp) (by omega) ?_; intro v13 w13 hown13 hg13 hf13; have HO13 := Lib.hid hown13; have HG13 := Lib.hid hg13; have HF13 := Lib.hid hf13; clear hown13 hg13 hf13))
          have HDV : Hid (∀ r, v13.ownBlock = some r → w12.heap.size < r) := Lib.hid (fun r hr => by
           rcases HF13.out with e | ⟨q, e, hq⟩
           ·rw [hr] at e; cases e
           ·rw [hr] at e
            injection e with e
            have : (w12.alloc (.cells #[.func (.func FP) #[] capsP, .func (.func FS) #[] capsS] 98)).heap.size = w12.heap.size + 1 := by simp
            omega)
          have hs13 := HG13.out.size
          have hb13 : Below w12.heap.size w12 w13 := (Below.refl _ w12).trans ((HBF.out.grown HG13.out (by omega) (fun k hk => by cases hk)))
          have hs1213 := hb13.size
          have HA13 : Hid (ActsS w13 (fun x => sb ≤ x ∧ x < w12.heap.size) w.heap.size gj g v13 [.func (.func FP) #[] capsP, .func (.func FS) #[] capsS] (preC true sN.k hd)) := Lib.hid (by
           have e : preC true sN.k hd = [] ++ [.app nm hd, .sync nm] := by rw [HNM.out]; rfl
           rw [e]
           refine ActsS.pushes (vs := []) ActsS.nil rfl (fun i h1 h2 => ?_) (by simp [Value.oneCell']) (fun x hx => hx.elim) (fun x hx => by omega) (fun r hr => by cases hr) HG13.out HF13.out HO13.out
           have hi : i < 2 := h1
           rcases (by omega : i = 0 ∨ i = 1) with rfl | rfl
           ·exact HJP2.out.keep HBF.out.size (fun x hx => HBF.out.block x hx.2)
           ·exact HJS.out.keep HBF.out.size (fun x hx => HBF.out.block x hx.2))
          have HB13 := Lib.hid (HB8.out.trans ((HB12.out.trans (hb13.mono (by omega))).mono (by omega)))
          have HK13 := Lib.hid ((HK8.out.below HB12.out HK8.out.lt).below hb13 (by have := HK8.out.lt; omega))
          have HR13 := Lib.hid ((HR8.out.below HB12.out HR8.out.lt).below hb13 (by have := HR8.out.lt; omega))
          clear hb13 HJP2 HJS HRA HBF HG13 HF13 HO13 HB8 HK8 HR8 HB12 HB1012 HG10 HBW8
          have HSA13 := Lib.hid (HGO.out _ HB13.out).2
          have hwG : Below w13.heap.size w13 (w13.alloc (.cells #[.pointer (some ⟨sb, 0, none⟩)] 108)) := (Below.refl _ w13).alloc (Nat.le_refl _) _
          have hsG := hwG.size
          have HSG := Lib.hid (HSA13.out.below hwG)
          have HAG := Lib.hid (HA13.out.below hwG)
          have HKG := Lib.hid (HK13.out.below hwG HK13.out.lt)
          have HRG := Lib.hid (HR13.out.below hwG HR13.out.lt)
          have HBG := Lib.hid (HB13.out.trans (hwG.mono (by omega)))
          have HRB := Lib.hid (rd_lit w13 108 [.pointer (some ⟨sb, 0, none⟩)])
          have hal : (ads.map fun a => Value.pointer (some a)).length = nl := by rw [List.length_map, HADS.out]
          have HAL := Lib.hid hal
          have HOG := Lib.hid HSG.out.own
          clear hwG hal HSA13 HA13 HK13 HR13 HB13
          go_wp2_with (at_builtin; go_must (refine wpList_append_any rfl (.tmp 143) (.tmp 145) 49 rfl w.heap.size 108 (.pointer none) 8 Tryz.underlying49 info_segp rfl _ _ rfl HOG.out (w13.heap.size + 1) (some ⟨w13.heap.size, 0, none⟩) 1 1 [.pointer (some ⟨sb, 0, none⟩)] rfl rfl HRB.out (by simp [Value.oneCell']) (by rw [HAL.out]; unfold maxLen; omega) (by rw [HAL.out]; omega) (by omega) ?_; intro v14 w14 hown14 hg14 hf14; have HO14 := Lib.hid hown14; have HG14 := Lib.hid hg14; have HF14 := Lib.hid hf14; clear hown14 hg14 hf14))
          go_meet
          obtain ⟨A14, c14, hv14, _⟩ := HO14.out.shape
          have hl14 : (ads.map (fun a => Value.pointer (some a)) ++ [Value.pointer (some ⟨sb, 0, none⟩)]).length = (j.segs ++ [sN]).length := by
           rw [List.length_append, List.length_append, HAL.out, ← HNL.out]
           rfl
          rw [hl14] at hv14
          have hs14 := HG14.out.size
          have hrow := HRW.out
          have hsN : sN = ⟨sN.k, ix + 1, t, [], [(hd.length : Int)]⟩ := by
           rw [HHD.out, HSN.out]
           rfl
          have hM : SegM (w13.alloc (.cells #[.pointer (some ⟨sb, 0, none⟩)] 108)) (fun x => F x ∨ (sb ≤ x ∧ x < w12.heap.size)) ⟨sb, 0, none⟩ sN := by
           rw [hsN]
           exact segM_new HKG.out HRG.out (.inr ⟨Nat.le_refl _, by omega⟩) (.inr ⟨by omega, by omega⟩) (by have := HKN.out; omega) (by omega) ht (by omega)
          have hP := SegsAt.push (F' := fun x => F x ∨ (sb ≤ x ∧ x < w12.heap.size)) HSG.out hM (fun x hx => .inl hx) (fun x hx => by
           rcases hx with hx | hx
           ·have := HFL.out x hx; omega
           ·omega) (fun r hr hx => by
           have h1 := hrow r hr
           rcases hx with hx | hx
           ·exact HSG.out.apart r hr hx
           ·omega) HG14.out HF14.out HO14.out
          have hAct := HAG.out.other HG14.out (by
           cases hq : v13.ownBlock with
           | none => exact .inl rfl
           | some q =>
            refine .inr (fun e => ?_)
            have h1 := HDV.out q hq
            have h2 := hrow q e.symm
            omega) (fun r hr hx => by have := hrow r hr; omega)
          rw [hv14] at hP
          refine ⟨A14, c14, nl, v13, j.segs ++ [sN], ads ++ [⟨sb, 0, none⟩], [.func (.func FP) #[] capsP, .func (.func FS) #[] capsS], fun x => F x ∨ (sb ≤ x ∧ x < w12.heap.size), fun x => sb ≤ x ∧ x < w12.heap.size, hv14, rfl, rfl, by rw [List.length_append, ← HNL.out]; simp; omega, by rw [List.length_append, ← HNL.out]; omega, by simp, Lib.hid ⟨by simp, by simp [HNL.out], fun _ => ⟨HOKN.out.1, HOKN.out.2, hhl⟩⟩, Lib.hid ((HGO.out _ HBG.out).1.grown HG14.out (by omega) (fun k hk => (HSG.out.own.lt k hk).1)), Lib.hid hP, Lib.hid hAct, Lib.hid ⟨fun r hr hx => ?_, fun r hr hx => ?_, fun x hx => by omega, fun x hx => hx.imp id (fun h => by omega)⟩⟩
          ·rcases HF14.out with e | ⟨q, e, hq⟩
           ·rw [hv14] at e
            have := hrow r (e ▸ hr)
            omega
           ·rw [hv14, hr] at e
            injection e with e
            omega
          ·have h1 := HDV.out r hr
           rcases hx with hx | hx
           ·have := HFL.out r hx; omega
           ·omega
     case rest =>
      obtain ⟨A5, c5, fr, dv, ss, ads5, vs, F5, G, h13, h14, h15, hsl, hfr, hvl, HCO, HBW, HSS, HAA, HAP⟩ := hcut
      subst h13 h15
      have h14b := h14.symm
      clear h14
      subst h14b
      clear HSA HB4
      obtain ⟨ns, hns⟩ : ∃ n, n = ss.length := ⟨_, rfl⟩
      have HNS := Lib.hid hns
      rw [← hns] at HSS HAP hsl hfr ⊢
      have hfrs : fr ≤ ss.length := by rw [← hns]; exact hfr
      obtain ⟨N, hN⟩ : ∃ N, N = fromN ss ix ns fr := ⟨_, rfl⟩
      have hNn : N ≤ ns := by rw [hN, hns]; exact fromN_le ss ix _ _ hfrs
      have HN := Lib.hid hN
      have hwi : IntKind.i64.wrap (ix + 1) = ix + 1 := IntWalk.i64_in _ (by omega)
      have hs5 := HBW.out.size
      obtain ⟨hc51, hc52⟩ : ns ≤ c5 ∧ c5 ≤ maxLen := by
       obtain ⟨A', c', hv, k1, k2, _⟩ := Own.shape HSS.out.own
       injection hv with _ e1 e2
       rw [← e1] at k1
       subst e2
       exact ⟨k1, k2⟩
      clear hN hns hfrs
      go_upto_block 2 with fail
      go_cut [15] from 147 to 166 (fun c15 wx => c15 = .int .i64 N ∧ wx = wc)
      case first =>
       go_wp2_with fail
       go_loopw [15] (fun i wr => ∃ (k fuel : Nat), k ≤ ns ∧ i = .int .i64 k ∧ wr = wc ∧ ns ≤ fuel + k ∧ Hid (N = fromN ss ix fuel k)) (fun i _ => ns - (intOf i).toNat)
       case atStart => exact ⟨fr, ns, hfr, rfl, rfl, by omega, HN⟩
       case round =>
        obtain ⟨k, fuel, hk, rfl, rfl, hfu, HNK⟩ := hrel
        clear HN hfr
        have hw1 : IntKind.i64.wrap ((k : Int) + 1) = (k : Int) + 1 := IntWalk.i64_in _ (by omega)
        by_cases hk1 : k + 1 < ns
        ·have hka : k + 1 < ads5.length := by rw [HSS.out.len, ← HNS.out]; exact hk1
         have hks : k + 1 < ss.length := by rw [← HNS.out]; exact hk1
         obtain ⟨ab, ao, e5, _, hal, hac⟩ := (RdF.of_own (F := fun _ => True) HSS.out.own (fun _ _ _ => trivial)) (by rw [List.length_map]; omega)
         subst e5
         obtain ⟨b, o, Al, cl, rs, Ae, ce, hab, hFb, hltb, _, d1, _⟩ := (HSS.out.seg (k + 1) hka hks).rd.cells
         obtain ⟨m1, hm1⟩ : ∃ m, m = k + 1 := ⟨_, rfl⟩
         have e0 : wr.cell? ⟨ab, ao + m1, none⟩ = some (.pointer (some ⟨b, o, none⟩)) := by rw [hm1]; exact hac (k + 1) _ (by rw [List.getElem?_map, List.getElem?_eq_getElem hka, hab]; rfl)
         obtain ⟨f2, rfl⟩ : ∃ f, fuel = f + 1 := ⟨fuel - 1, by omega⟩
         have hstep : N = if ss[k + 1].first ≤ ix + 1 then fromN ss ix f2 (k + 1) else k := by
          rw [HNK.out]
          show (match ss[k + 1]? with | some s => _ | none => _) = _
          rw [List.getElem?_eq_getElem hks]
         obtain ⟨fi, hfi⟩ : ∃ x, x = ss[k + 1].first := ⟨_, rfl⟩
         rw [← hfi] at d1 hstep
         rw [← hm1] at hstep
         have hadd : (k : Int) + 1 = (m1 : Int) := by omega
         have hmn : m1 < ns := by omega
         have hmn2 : (m1 : Int) < (ns : Int) := by omega
         have HM1 := Lib.hid hm1
         have HST := Lib.hid hstep
         clear hac hab hfi hstep hm1 hk1
         by_cases hle : fi ≤ ix + 1
         ·have HN2 := Lib.hid (show N = fromN ss ix f2 m1 by rw [HST.out, if_pos hle])
          clear HST HNK
          go_wp2_with fail
          go_roundw
          case rel => exact ⟨m1, f2, by omega, by go_num, by first | rfl | trivial, by have := HM1.out; omega, HN2⟩
          case measure => simp [intOf]; omega
         ·have hNk : N = k := by rw [HST.out, if_neg hle]
          have HNK2 := Lib.hid hNk
          clear HST HNK hNk
          go_wp2_with fail
          go_meet
          exact ⟨by rw [HNK2.out], rfl⟩
        ·have hNk : N = k := by
          rw [HNK.out]
          cases fuel with
          | zero => rfl
          | succ f =>
           show (match ss[k + 1]? with | some s => _ | none => _) = _
           rw [List.getElem?_eq_none (by rw [← HNS.out]; omega)]
         have HNK2 := Lib.hid hNk
         have hkn : ¬ (k : Int) + 1 < (ns : Int) := by omega
         clear HNK hNk hk1
         go_wp2_with fail
         go_meet
         exact ⟨by rw [HNK2.out], rfl⟩
      case rest =>
       obtain ⟨rfl, rfl⟩ := hcut
       have hNc : N ≤ c5 := by omega
       have hNc2 : (0 : Int) ≤ (N : Int) ∧ (N : Int) ≤ (c5 : Int) := by omega
       go_upto_block 4 with fail
       go_cut [14] from 171 to 182 (fun c14 wx => ∃ (dv1 : Value) (vs1 : List Value) (G1 : Nat → Prop), c14 = dv1 ∧ vs1.length ≤ N + 2 ∧ Hid (Below w.heap.size w wx) ∧ Hid (SegsAt wx F5 w.heap.size (.slice A5 ns c5) ads5 ss) ∧ Hid (ActsS wx G1 w.heap.size gj g dv1 vs1 (preC nw sN.k hd ++ (ss.take N).map fun x => JAct.rm (jName x.k))) ∧ Hid ((∀ r, (Value.slice A5 ns c5).ownBlock = some r → ¬ G1 r) ∧ (∀ r, dv1.ownBlock = some r → ¬ F5 r) ∧ (∀ x, G1 x → w.heap.size ≤ x) ∧ (∀ x, F5 x → F x ∨ w.heap.size ≤ x)))
       case first =>
        go_wp2_with fail
        go_loopw [171, 14, 19] (fun i dvv _ wr => ∃ (k : Nat) (dv1 : Value) (vs1 : List Value) (G1 : Nat → Prop), k ≤ N ∧ i = .int .i64 k ∧ dvv = dv1 ∧ vs1.length ≤ k + 2 ∧ Hid (Below w.heap.size w wr) ∧ Hid (SegsAt wr F5 w.heap.size (.slice A5 ns c5) ads5 ss) ∧ Hid (ActsS wr G1 w.heap.size gj g dv1 vs1 (preC nw sN.k hd ++ (ss.take k).map fun x => JAct.rm (jName x.k))) ∧ Hid ((∀ r, (Value.slice A5 ns c5).ownBlock = some r → ¬ G1 r) ∧ (∀ r, dv1.ownBlock = some r → ¬ F5 r) ∧ (∀ x, G1 x → w.heap.size ≤ x) ∧ (∀ x, F5 x → F x ∨ w.heap.size ≤ x))) (fun i _ _ _ => N - (intOf i).toNat)
        case atStart => exact ⟨0, dv, vs, G, by omega, rfl, rfl, hvl, HBW, HSS, Lib.hid (by rw [List.take_zero, List.map_nil, List.append_nil]; exact HAA.out), HAP⟩
        case round =>
         obtain ⟨k, dv1, vs1, G1, hk, rfl, hdv, hvl1, HB, HS, HA, HP⟩ := hrel
         have hdv2 := hdv.symm
         clear hdv
         subst hdv2
         have hsr := HB.out.size
         by_cases hlt : k < N
         ·have hka : k < ads5.length := by rw [HS.out.len, ← HNS.out]; omega
          have hks : k < ss.length := by rw [← HNS.out]; omega
          obtain ⟨ab, ao, e5, _, hal, hac⟩ := (RdF.of_own (F := fun _ => True) HS.out.own (fun _ _ _ => trivial)) (by rw [List.length_map]; omega)
          subst e5
          have hM := HS.out.seg k hka hks
          have e0 : wr.cell? ⟨ab, ao + k, none⟩ = some (.pointer (some ads5[k])) := hac k _ (by rw [List.getElem?_map, List.getElem?_eq_getElem hka]; rfl)
          have hqk := hM.rd.num.k
          have htk : ss.take (k + 1) = ss.take k ++ [ss[k]] := by rw [List.take_add_one, List.getElem?_eq_getElem hks]; rfl
          have HNA := Lib.hid (hM.nameJ (HE.out wr (HB.out.mono hbw)))
          obtain ⟨ad, had⟩ : ∃ a, a = ads5[k] := ⟨_, rfl⟩
          obtain ⟨s, hs⟩ : ∃ s, s = ss[k] := ⟨_, rfl⟩
          rw [← had] at e0 HNA
          rw [← hs] at hqk htk HNA
          have hqn := jName_len s.k hqk
          obtain ⟨nm, hnm⟩ : ∃ n, n = jName s.k := ⟨_, rfl⟩
          have HNM := Lib.hid hnm
          rw [← hnm] at HNA hqn
          have HTK := Lib.hid htk
          clear hac hM had hs hnm htk hqk
          go_wp2_with fail
          refine HNA.out.mono ?_
          rintro e w5 ⟨rfl, hb5⟩
          have hs5r := hb5.size
          have HB5 := Lib.hid hb5
          clear hb5 HNA e0
          go_wp2_with fail
          refine (show Calls _ _ _ w5 _ from jmk_rm (gj := gj) (g := g) nm (by omega) w5).mono ?_
          rintro e w6 ⟨v6, rfl, hb6, ⟨F6, caps6, rfl⟩, _, hact⟩
          have hs6 := hb6.size
          have hb56 := HB5.out.trans (hb6.mono hs5r)
          have HB6 := Lib.hid hb56
          have hact2 := hact (fun x => G1 x ∨ (wr.heap.size ≤ x ∧ x < w6.heap.size)) (fun x h1 h2 => .inr ⟨by omega, h2⟩)
          have HACT := Lib.hid hact2
          have hsA : w6.heap.size ≤ (w6.alloc (.cells #[.func (.func F6) #[] caps6] 98)).heap.size := by simp
          have hbA := hb56.trans (((Below.refl w6.heap.size w6).alloc (Nat.le_refl _) (.cells #[.func (.func F6) #[] caps6] 98)).mono (by omega))
          have HDA := Lib.hid (HA.out.below hbA)
          have HSA2 := Lib.hid (HS.out.below hbA)
          have HBA2 := Lib.hid (HB.out.trans (hbA.mono hsr))
          have HRA := Lib.hid (rd_lit w6 98 [.func (.func F6) #[] caps6])
          obtain ⟨Ad, cd, hdv, _, _, _⟩ := HDA.out.own.shape
          subst hdv
          have HOWN := Lib.hid HDA.out.own
          clear hb6 hact hb56 hact2 hbA HB5
          go_wp2_with (at_builtin; go_must (refine wpList_append_any rfl (.tmp 175) (.tmp 180) 110 rfl w.heap.size 98 .nilFunc 8 Tryz.underlying110 info_fnJ rfl _ _ rfl HOWN.out (w6.heap.size + 1) (some ⟨w6.heap.size, 0, none⟩) 1 1 [.func (.func F6) #[] caps6] rfl rfl HRA.out (by simp [Value.oneCell']) (by unfold maxLen; omega) (by omega) (by omega) ?_; intro v8 w8 hown8 hg8 hf8; have HO8 := Lib.hid hown8; have HG8 := Lib.hid hg8; have HF8 := Lib.hid hf8; clear hown8 hg8 hf8))
          go_roundw
          case rel =>
           have hs8 := HG8.out.size
           have hA8 := HA.out.step HB6.out HACT.out HG8.out HF8.out HO8.out
           have hne := jrow_type_ne HSA2.out.own HOWN.out (by decide)
           refine ⟨k + 1, v8, vs1 ++ [.func (.func F6) #[] caps6], fun x => G1 x ∨ (wr.heap.size ≤ x ∧ x < w6.heap.size), by omega, by go_num, rfl, by simp; omega, Lib.hid (HBA2.out.grown HG8.out (by omega) (fun r hr => (HOWN.out.lt r hr).1)), Lib.hid (HSA2.out.other HG8.out hne (fun r hr => HP.out.2.1 r hr)), Lib.hid ?_, Lib.hid ⟨fun r hr hx => ?_, fun r hr hx => ?_, fun x hx => ?_, HP.out.2.2.2⟩⟩
           ·rw [HTK.out, List.map_append, ← List.append_assoc, List.map_cons, List.map_nil, ← HNM.out]
            exact hA8
           ·rcases hx with hx | hx
            ·exact HP.out.1 r hr hx
            ·have := (HS.out.own.lt r hr).2; omega
           ·rcases HF8.out with e | ⟨q, e, hq⟩
            ·exact HP.out.2.1 r (e ▸ hr) hx
            ·rw [hr] at e
             injection e with e
             have := HSA2.out.lt r hx
             omega
           ·rcases hx with hx | hx
            ·exact HP.out.2.2.1 x hx
            ·omega
          case measure => simp [intOf]; omega
         ·obtain rfl : k = N := by omega
          go_wp2_with fail
          go_meet
          exact ⟨_, vs1, G1, rfl, hvl1, HB, HS, HA, HP⟩
       case rest =>
        obtain ⟨dv1, vs1, G1, hdv, hvl1, HB, HS, HA, HP⟩ := hcut
        have hdv2 := hdv.symm
        clear hdv
        subst hdv2
        clear HBW HSS HAA HAP hs5 hvl
        have hsr := HB.out.size
        obtain ⟨al, hal⟩ : ∃ a, a = preC nw sN.k hd ++ (ss.take N).map fun x => JAct.rm (jName x.k) := ⟨_, rfl⟩
        have hall : al.length ≤ 1000000010 := by
         rw [hal, List.length_append, List.length_map, List.length_take]
         have : (preC nw sN.k hd).length ≤ 2 := by unfold preC; split <;> simp
         omega
        have hco : costs al ≤ 1048601 := by
         have h1 : ∀ l : List SegP, costs (l.map fun x => JAct.rm (jName x.k)) = 0 := fun l => costs_none (fun a ha => by obtain ⟨x, _, rfl⟩ := List.mem_map.1 ha; rfl)
         have h2 : ∀ a b : List JAct, costs (a ++ b) = costs a + costs b := fun a b => by unfold costs; rw [List.map_append, List.sum_append]
         rw [hal, h2, h1]
         unfold preC
         cases hnw : nw with
         | false => simp [costs]
         | true =>
          have := (HCO.out.2.2 hnw).2.2
          simp [costs, JAct.cost]
          omega
        rw [← hal] at HA
        obtain ⟨Ad, cd, hdv, _, _, _⟩ := HA.out.own.shape
        rw [HA.out.len] at hdv
        subst hdv
        have HHB := Lib.hid (HH.out.below HB.out)
        have HAC := Lib.hid (jacts_any (E := fun k => w.heap.size ≤ k ∧ k < wc.heap.size) HHB.out.disk (HJ.out.below HB.out hgj) HH.out.lo Ad vs1 al cd (RdF.of_own HA.out.own (fun k h1 h2 => ⟨h1, h2⟩)) HA.out.len (fun k h h' => (HA.out.acts k h h').mono (fun x hx => ⟨HP.out.2.2.1 x hx, HA.out.lt x hx⟩)) (fun k hk => ⟨hk.2, fun hf => by have := (HH.out.disk.lt k hf).2; omega, by omega⟩) (fun w' hb' => HE.out w' ((HB.out.mono hbw).trans hb')) (L := L) (by rw [DkD.eta' d HH.out.fs]; exact HOK.out) (by omega) (by omega))
        rw [DkD.eta' d HH.out.fs] at HAC
        obtain ⟨rc, d3, hR⟩ : ∃ rc d3, runJ al d = (rc, d3) := ⟨_, _, rfl⟩
        rw [hR] at HAC
        have hrc : compactJ j d ix t = (rc, if rc = 0 then ⟨j.term, j.vote, ss.drop N, j.bad⟩ else ⟨j.term, j.vote, j.segs, rc⟩, d3) := by
         rw [HR.out]
         unfold compactR
         rw [← HSN.out, ← HHD.out, if_neg (fun h => (HCO.out.2.2 h.1).1 h.2), if_neg (fun h => (HCO.out.2.2 h.1).2.1 h.2)]
         dsimp only
         rw [← HCO.out.1, ← HCO.out.2.1, ← HNS.out, ← HN.out]
         have e : (if nw = true then [JAct.app (jName sN.k) hd, .sync (jName sN.k)] else []) ++ (ss.take N).map (fun x => JAct.rm (jName x.k)) = al := hal.symm
         rw [e, hR]
        have HRC := Lib.hid hrc
        dsimp only at HAC
        clear hR hal hco hall hrc HR
        have hcut := fun W : World => run_cut_from (P := Tryz.prog) Tryz.underlying49 info_segp A5 ns c5 N hNn (N : Int) rfl W
        go_wp2_with fail
        refine HAC.out.mono ?_
        rintro e w9 ⟨rfl, es3, hD10, hS10, hJ10, hF10, hg10⟩
        have hs10 := hF10.size
        have hFR : Fr (fun k => DFoot g m es k ∨ k = gj) w w9 := (Fr.of_below _ HB.out).trans hF10 (fun j hj => .inl hj)
        have HFR := Lib.hid hFR
        have HD10 := Lib.hid hD10
        have HS10 := Lib.hid hS10
        have HJ10 := Lib.hid hJ10
        have HG10 := Lib.hid (show ∀ k, DFoot g m es3 k → DFoot g m es k ∨ wc.heap.size ≤ k from hg10)
        have HST : Hid (∀ x, F5 x ∨ (Value.slice A5 ns c5).ownBlock = some x → w9.heap[x]? = wc.heap[x]? ∧ (F x ∨ w.heap.size ≤ x) ∧ x < wc.heap.size ∧ x ≠ gj ∧ ¬ DFoot g m es3 x) := Lib.hid (fun x hx => by
         have h1 : (F x ∨ w.heap.size ≤ x) ∧ x < wc.heap.size := by
          rcases hx with hx | hx
          ·exact ⟨HP.out.2.2.2 x hx, HS.out.lt x hx⟩
          ·have := HS.out.own.lt x hx
           exact ⟨.inr this.1, this.2⟩
         have h2 : x ≠ gj ∧ ¬ DFoot g m es x := by
          rcases h1.1 with h3 | h3
          ·exact (HH.out.apart x h3).2.2
          ·exact ⟨by omega, fun hf => by have := (HH.out.disk.lt x hf).2; omega⟩
         refine ⟨hF10.block x h1.2 (by rintro (h3 | h3); exact h2.2 h3; exact h2.1 h3), h1.1, h1.2, h2.1, fun hf => ?_⟩
         rcases hg10 x hf with h3 | h3
         ·exact h2.2 h3
         ·omega)
        have HS9 := Lib.hid (HS.out.keep hs10 (fun x hx => (HST.out x hx).1))
        have j2 : w9.cell? ⟨gj, 2, none⟩ = some (.slice A nl c) := HJ10.out.cell 2
        have j4 : w9.cell? ⟨gj, 4, none⟩ = some (.int .i64 rc) := HJ10.out.cell 4
        have z2 : w9.frozen? ⟨gj, 2, none⟩ = false := HJ10.out.frozen _
        clear hD10 hS10 hJ10 hF10 hg10 hFR HAC
        by_cases hz : rc = 0
        ·subst hz
         have HR2 := Lib.hid (HRC.out.trans (by rw [if_pos rfl, ← HJB.out] : _ = ((0 : Int), (⟨j.term, j.vote, ss.drop N, 0⟩ : JnP), d3)))
         clear HRC
         have hgs := grown_setCell w9 gj 2 (.slice (cutA A5 N c5) (ns - N) (c5 - N))
         have HBS := Lib.hid (HJ10.out.set_ 2 (.slice (cutA A5 N c5) (ns - N) (c5 - N)))
         have HGS := Lib.hid hgs
         clear hgs
         go_wp2_with fail
         go_ret
         have hne : ∀ k, (Value.slice A5 ns c5).ownBlock = some k → k ≠ gj := fun k hk => (HST.out k (.inr hk)).2.2.2.1
         have hSS := HS9.out.other HGS.out (by
          cases hq : (Value.slice A5 ns c5).ownBlock with
          | none => exact .inl rfl
          | some q => exact .inr (fun e => by injection e with e; exact hne q hq e)) (fun r hr hx => by injection hr with hr; exact (HST.out r (.inl hx)).2.2.2.1 hr.symm)
         have hJA := hSS.jat (k := N) (by rw [← HNS.out]; exact hNn) HBS.out (by rw [← HNS.out]; omega) HNUM.out.1 HNUM.out.2
         exact HH.out.acted (es2 := es3) (F' := fun x => F5 x ∨ (Value.slice A5 ns c5).ownBlock = some x) (HFR.out.trans (Fr.of_grown (mine := fun k => k = gj) HGS.out (fun k e => by injection e with e; exact e.symm)) (fun k hk => .inl (.inr hk))) (HD10.out.keep HGS.out.size (fun k hk => HGS.out.block k (HD10.out.lt k hk).2 (fun e => by injection e with e; subst e; exact HD10.out.not_foot HJ10.out (by decide) (by decide) (by decide) hk))) HS10.out (fun k hk => (HG10.out k hk).imp id (fun h => by omega)) hJA (fun x hx => ⟨(HST.out x hx).2.1, by have := (HST.out x hx).2.2.1; have := HGS.out.size; omega, (HST.out x hx).2.2.2⟩) hbw HR2.out
        ·have hbn : (rc == 0) = false := by simpa using hz
         have HR2 := Lib.hid (HRC.out.trans (by rw [if_neg hz] : _ = (rc, (⟨j.term, j.vote, j.segs, rc⟩ : JnP), d3)))
         clear HRC hz
         go_wp2_with fail
         go_ret
         obtain ⟨sv, hB1, htn⟩ := HH.out.jn.turn
         have hsv : sv = .slice A nl c := by
          have e := hB1.symm.trans HJ.out
          injection e with e
          injection e with e _ _
          have e2 := congrArg (fun a : Array Value => a[2]?) e
          simpa using e2
         subst hsv
         have hFk : ∀ k, F k → w9.heap[k]? = w.heap[k]? ∧ k < w9.heap.size ∧ k ≠ gj ∧ ¬ DFoot g m es3 k := fun k hk => by
          have h1 := HH.out.apart k hk
          have := HFR.out.size
          refine ⟨HFR.out.block k h1.2.1 (by rintro (h3 | h3); exact h1.2.2.2 h3; exact h1.2.2.1 h3), by omega, h1.2.2.1, fun hf => ?_⟩
          rcases HG10.out k hf with h3 | h3
          ·exact h1.2.2.2 h3
          ·omega
         exact HH.out.acted (es2 := es3) (F' := F) HFR.out HD10.out HS10.out (fun k hk => (HG10.out k hk).imp id (fun h => by omega)) (htn w9 j.term j.vote rc HFR.out.size (fun k hk => (hFk k hk).1) HJ10.out HNUM.out.1 HNUM.out.2) (fun k hk => ⟨.inl hk, (hFk k hk).2⟩) hbw HR2.out
 ·have hbn : (jb != 0) = true := bne_iff_ne.2 hb
  have HR := Lib.hid (show compactJ j d ix t = (jb, j, d) by rw [compactJ_eq, if_pos (by rw [← HJB.out]; exact hb), HJB.out])
  clear hb HNEW HBAD
  go_wp2_with fail
  go_ret
  exact HH.out.same HB3.out HR.out
end Go.Proofs.YtgeofijddhflaaaGreatDoor
