/- Two rows of entries that are one, or not (pavaneref22.Same). Condition: they can be read. -/
import Derived.Test.YtgeofijddhflaaaGreatDoorQJnMay
import Derived.Test.YtgeofijddhflaaaGreatDoorQJnSeg
import Derived.Laws.ResultCell
import Derived.BigQuiet
set_option linter.unusedVariables false
set_option linter.unusedSimpArgs false
namespace Go.Proofs.YtgeofijddhflaaaGreatDoor
open Go.RowKit Oct
theorem below_set {B : Nat} {a w : World} (h : Below B a w) (g i : Nat) (u : Value) (hg : B ≤ g) : Below B a (w.setCell ⟨g, i, none⟩ u) :=
 ⟨h.os, h.tape, h.output, Nat.le_trans h.size (grown_setCell w g i u).size, fun k hk => (Below.heap_setCell _ _ _ _ (by show k ≠ g; omega)).trans (h.block k hk)⟩
theorem SgAt.setR {w : World} {G : Nat} {s : SegP} {rs : List EntR} {vl ve tv : Value} (h : SgAt w G s rs vl ve tv) (g i : Nat) (u : Value) (hg : g < G) : SgAt (w.setCell ⟨g, i, none⟩ u) G s rs vl ve tv :=
 ⟨h.blk.far (by show G ≠ g; omega) u, World.ownsRow.kept h.ents (grown_setCell w g i u) (by
  cases hv : vl.ownBlock with
  | none => exact .inl rfl
  | some q => exact .inr fun e => by injection e with e; have := (World.ownsRow.lt h.ents q hv).1; omega), h.map, fun q hq => (h.dat q hq).keep fun k hk => (grown_setCell w g i u).block k ((h.dat q hq).lt k hk).2 (fun e => by injection e with e; have := ((h.dat q hq).lt k hk).1; omega), Own.far h.ends (grown_setCell w g i u) (by omega)⟩
theorem jclosed_one (A1 : Option Addr) (l1 : List UInt8) (c1 : Nat) (w : World) (h1 : Rd w w.heap.size A1 (cells l1)) (hl1 : l1.length ≤ 70000000) :
  Calls Tryz.prog 67 #[.slice (some ⟨w.heap.size, 0, none⟩) 1 1] (w.alloc (.cells #[.slice A1 l1.length c1] 34)) fun e w' => ∃ v, e = .returned v ∧ Got w' w.heap.size v (closeS l1) ∧ Below w.heap.size w w' := by
 have hbB : Below w.heap.size w (w.alloc (.cells [Row.val ⟨A1, l1, c1⟩].toArray 34)) := (Below.refl _ w).alloc (Nat.le_refl _) _
 have hrB : Rd (w.alloc (.cells [Row.val ⟨A1, l1, c1⟩].toArray 34)) (w.alloc (.cells [Row.val ⟨A1, l1, c1⟩].toArray 34)).heap.size (some ⟨w.heap.size, 0, none⟩) ([⟨A1, l1, c1⟩].map Row.val) := (rd_lit w 34 [Row.val ⟨A1, l1, c1⟩]).more (by simp)
 have hpB : RRd (w.alloc (.cells [Row.val ⟨A1, l1, c1⟩].toArray 34)) (w.alloc (.cells [Row.val ⟨A1, l1, c1⟩].toArray 34)).heap.size [⟨A1, l1, c1⟩] := fun p hp => by
  obtain rfl := List.mem_singleton.1 hp
  exact ⟨(h1.below hbB).more hbB.size, by show l1.length ≤ _; omega⟩
 have hflat : flat [⟨A1, l1, c1⟩] = l1 := by simp [flat]
 have h := jclosed_any (some ⟨w.heap.size, 0, none⟩) [⟨A1, l1, c1⟩] 1 1 rfl _ hrB hpB (by simp) (by rw [hflat]; omega) (by simp)
 rw [hflat] at h
 exact h.mono fun e w' ⟨v, h1, h2, h3⟩ => ⟨v, h1, h2.mono (by simp), hbB.trans (h3.mono (by simp))⟩
theorem SgAt.pushEnd {w w2 : World} {G : Nat} {s : SegP} {rs : List EntR} {vl ve ve' tv : Value} {a : Int} (h : SgAt w G s rs vl ve tv) (hown : Own w2 (G + 1) 3 ve' (s.ends.map (Value.int .i64) ++ [.int .i64 a])) (hg : w.grownBy w2 ve.ownBlock) :
  SgAt (w2.setCell ⟨G, 4, none⟩ ve') G { s with ends := s.ends ++ [a] } rs vl ve' tv := by
 have hlt : ∀ k, ve.ownBlock = some k → G < k := fun k hk => by have := (Own.lt h.ends k hk).1; omega
 have hsc := grown_setCell w2 G 4 ve'
 have k1 : Blk w2 G 106 _ := h.blk.grown hg (fun e => by have := hlt G e.symm; omega)
 have hown' : Own w2 (G + 1) 3 ve' ((s.ends ++ [a]).map (Value.int .i64)) := by simpa using hown
 have hen : w2.ownsRow (G + 1) 65 4 vl rs.length (erCells rs) := World.ownsRow.kept h.ents hg (jrow_type_ne h.ents h.ends (by decide))
 refine ⟨Blk.set_ k1 4 _, World.ownsRow.kept hen hsc (by
  cases hv : vl.ownBlock with
  | none => exact .inl rfl
  | some k => exact .inr fun e => by injection e with e; have := (World.ownsRow.lt hen k hv).1; omega), h.map, fun q hq => (h.dat q hq).keep fun k hk => ?_, Own.far hown' hsc (by omega)⟩
 have h2 := (h.dat q hq).lt k hk
 rw [Below.heap_setCell w2 ⟨G, 4, none⟩ ve' k (by show k ≠ G; omega)]
 refine hg.block k h2.2 fun e => ?_
 obtain ⟨g, cs, fz, e1, hc⟩ := (h.dat q hq).held
 rw [hk] at e1
 injection e1 with e1
 subst e1
 obtain ⟨cs', hc'⟩ := ownsRow_held h.ends e.symm
 rw [hc] at hc'
 injection hc' with hc'
 injection hc' with _ h _
 exact absurd h (by decide)
theorem seg_appended {w1 w2 w4 : World} {G : Nat} {s : SegP} {rs : List EntR} {vl ve v4 tv : Value} {a : Int} (hS : SgAt w2 G s rs vl ve tv) (hB : Below G w1 w2) (hown : Own w4 (G + 1) 3 v4 (s.ends.map (Value.int .i64) ++ [.int .i64 a])) (hg : w2.grownBy w4 ve.ownBlock) :
  ∃ A4 c4, v4 = .slice A4 (s.ends.length + 1) c4 ∧ w4.cell? ⟨G, 4, none⟩ = some ve ∧ w4.frozen? ⟨G, 4, none⟩ = false ∧ SgAt (w4.setCell ⟨G, 4, none⟩ v4) G { s with ends := s.ends ++ [a] } rs vl v4 tv ∧ Below G w1 (w4.setCell ⟨G, 4, none⟩ v4) := by
 have hneG : ve.ownBlock ≠ some G := fun e => by have := (Own.lt hS.ends G e).1; omega
 have hlt := hS.blk.lt
 have k4 := hg.block G hlt (fun e => hneG e.symm)
 have hK4 : Blk w4 G 106 _ := Eq.trans k4 hS.blk
 obtain ⟨A4, c4, hv4, _, _, _⟩ := Own.shape hown
 rw [List.length_append, List.length_map] at hv4
 have hb := hB.size
 exact ⟨A4, c4, hv4, hK4.cell 4, hK4.frozen _, hS.pushEnd hown hg, below_set (hB.grown hg (by omega) (fun j hj => by have := (Own.lt hS.ends j hj).1; omega)) G 4 _ (Nat.le_refl _)⟩
set_option maxHeartbeats 4000000 in
set_option maxRecDepth 100000 in
theorem jread_any (k : Int) (hk : -9223372036854775808 ≤ k ∧ k ≤ 9223372036854775807) (A : Option Addr) (b : List UInt8) (c : Nat) (w : World) (hr : Rd w w.heap.size A (cells b)) (hbc : b.length ≤ c) (hb : b.length ≤ 1000000000) (hc : c ≤ 9223372036854775807) :
  Calls Tryz.prog 99 #[.int .i64 k, .slice A b.length c] w fun e w' => Below w.heap.size w w' ∧ ∃ v, e = .returned (.tuple #[v, .bool (readSeg k b).isSome]) ∧ (∃ a1 a2 a3 Al nl cl Ae ne ce tn, v = .agg #[.int .i64 a1, .int .i64 a2, .int .i64 a3, .slice Al nl cl, .slice Ae ne ce, .bool tn]) ∧
   ∀ s torn, readSeg k b = some (s, torn) → ∃ G rs vl ve, w.heap.size ≤ G ∧ SgAt w' G s rs vl ve (.bool torn) ∧ v = .agg #[.int .i64 s.k, .int .i64 s.first, .int .i64 s.term, vl, ve, .bool torn] ∧ s.k = k ∧ (0 ≤ s.first ∧ s.first ≤ 9223372036854775806) ∧ -1 ≤ s.last.1 ∧ s.l.length ≤ b.length ∧ s.ends.length ≤ b.length := by
 have hRB : Below w.heap.size w (w.alloc (.cells #[.int .i64 0, .int .i64 0, .int .i64 0, .slice none 0 0, .slice none 0 0, .bool false] 106)) := (Below.refl _ w).alloc (Nat.le_refl _) _
 have hKR : Blk (w.alloc (.cells #[.int .i64 0, .int .i64 0, .int .i64 0, .slice none 0 0, .slice none 0 0, .bool false] 106)) w.heap.size 106 #[.int .i64 0, .int .i64 0, .int .i64 0, .slice none 0 0, .slice none 0 0, .bool false] := Blk.new w _ _
 have HRW := Lib.hid (rows_any A b b.length c rfl (w.alloc (.cells #[.int .i64 0, .int .i64 0, .int .i64 0, .slice none 0 0, .slice none 0 0, .bool false] 106)) ((hr.below hRB).more hRB.size) hbc (by omega))
 have HKR := Lib.hid hKR
 have HRB := Lib.hid hRB
 have hRl := hKR.lt
 clear hRB hKR hr
 go_enter Tryz.func99, Tryz.ntmps99
 go_wp2_with fail
 refine HRW.out.mono ?_
 rintro e w1 ⟨v, xs, rfl, hg, hb1⟩
 obtain ⟨A1, c1, hv, hl1, hl2, hrd⟩ := Own.shape hg.own
 subst hv
 have hK1 := HKR.out.below hb1 hRl
 have hB1 : Below w.heap.size w w1 := HRB.out.trans (hb1.mono (by omega))
 obtain ⟨er, her⟩ : ∃ er, er = (rowsS b).2.2 := ⟨_, rfl⟩
 have HER := Lib.hid her
 rw [← her]
 have hs1 := hB1.size
 have hR1 : w.heap.size < w1.heap.size := hK1.lt
 clear her HRW HKR HRB
 have HGR := Lib.hid hg
 have HK1 := Lib.hid hK1
 have HB1 := Lib.hid hB1
 clear hg hK1 hB1 hb1
 go_upto_region 3 with (fail)
 obtain ⟨G, hG⟩ : ∃ G, G = w1.heap.size := ⟨_, rfl⟩
 have hSG : SgAt (w1.alloc (.cells #[.int .i64 k, .int .i64 0, .int .i64 0, .slice none 0 0, .slice none 0 0, .bool (er != 0)] 106)) G ⟨k, 0, 0, [], []⟩ [] (.slice none 0 0) (.slice none 0 0) (.bool (er != 0)) := by
  rw [hG]
  exact ⟨Blk.new w1 _ _, World.ownsRow_nil _ _ _ _, rfl, (fun q hq => by cases hq), Own.nil _ _ _⟩
 have hBG : Below G w1 (w1.alloc (.cells #[.int .i64 k, .int .i64 0, .int .i64 0, .slice none 0 0, .slice none 0 0, .bool (er != 0)] 106)) := by
  rw [hG]
  exact (Below.refl _ w1).alloc (Nat.le_refl _) _
 have HSG := Lib.hid hSG
 have HBG := Lib.hid hBG
 rw [← hG]
 obtain ⟨tn, htn⟩ : ∃ tn, tn = (er != 0) := ⟨_, rfl⟩
 rw [← htn] at HSG HBG ⊢
 have HTN := Lib.hid htn
 generalize (w1.alloc (.cells #[.int .i64 k, .int .i64 0, .int .i64 0, .slice none 0 0, .slice none 0 0, .bool tn] 106)) = wG at HSG HBG ⊢
 have HG := Lib.hid hG
 have HR1 := Lib.hid hR1
 obtain ⟨hall1, hall2⟩ := rowsS_all b
 have hxl : xs.length ≤ 1000000000 := by rw [HGR.out.len]; omega
 clear hSG hBG htn hG hRl hR1 hrd
 go_wp2_with fail
 go_loopw [10, 11, 12, 26] (fun at_ _ _ ix wr => ∃ (i : Nat) (a : Int) (s : SegP) (rs : List EntR) (vl ve : Value), i ≤ xs.length ∧ ix = .int .i64 i ∧ at_ = .int .i64 a ∧ Hid (RdI k b i s a) ∧ Hid (rs.length = s.l.length) ∧ Hid (SgAt wr G s rs vl ve (.bool tn)) ∧ Hid (Below G w1 wr)) (fun _ _ _ ix _ => xs.length - (intOf ix).toNat)
 case atStart => exact ⟨0, 0, _, [], _, _, by omega, rfl, rfl, Lib.hid (RdI.start k b), Lib.hid rfl, HSG, HBG⟩
 case round =>
  obtain ⟨i, a, s, rs, vl, ve, hi, rfl, rfl, HRI, HRL, HS, HB⟩ := hrel
  have hgs : G < wr.heap.size := HS.out.blk.lt
  by_cases hlt : i < xs.length
  ·have hlt' : i < (rowsS b).1.length := by rw [← HGR.out.len]; exact hlt
   have hcell := Rd.at_ (GotRows.rd HGR.out) hlt
   obtain ⟨adp, hap, hab, hcp⟩ := hcell
   subst hap
   have hp := (HGR.out.got i hlt hlt').shape
   obtain ⟨Ap, cp, hv, hpc, hcpm, hpr⟩ := hp
   rw [hv] at hcp
   have hcp' : wr.cell? (adp.add i) = some (.slice Ap ((rowsS b).1[i]).length cp) := (World.cell?_of_block (w := w1) (HB.out.block _ (by rw [block_of_add, HG.out]; exact hab))).trans hcp
   have hpl := hall2 _ (List.getElem_mem hlt')
   have hpi : (rowsS b).1[i]? = some ((rowsS b).1[i]) := List.getElem?_eq_getElem hlt'
   have hprG : Rd wr G Ap (cells ((rowsS b).1[i])) := by
    rw [HG.out]
    have := HB.out
    rw [HG.out] at this
    exact hpr.below this
   have hp1 : Rd w1 G Ap (cells ((rowsS b).1[i])) := by rw [HG.out]; exact hpr
   generalize (rowsS b).1[i] = p at hp1 hpc hpl hpi hprG hcp'
   have HPI := Lib.hid hpi
   have HPR := Lib.hid hprG
   have HP1 := Lib.hid hp1
   clear hpi hprG hcp hv hpr hp1
   have hltI : (i : Int) < (xs.length : Int) := by omega
   obtain ⟨Al, cl, hvl, _⟩ := jrow_shape HS.out.ents
   obtain ⟨Ae, ce, hve, _, _, _⟩ := Own.shape HS.out.ends
   rw [List.length_map] at hve
   subst hvl hve
   have HKr := Lib.hid (HK1.out.below HB.out (by rw [HG.out]; exact HR1.out))
   have hpG : 0 < p.length → ∀ ad, Ap = some ad → ad.block ≠ G := fun h0 ad e => by
    obtain ⟨ad', e', hlt, _⟩ := HPR.out (by rw [cells_length]; exact h0)
    rw [e] at e'
    injection e' with e'
    subst e'
    omega
   by_cases hi0 : i = 0
   ·subst hi0
    obtain ⟨rfl, rfl⟩ := HRI.out.zero rfl
    have hcp0 : wr.cell? adp = some (.slice Ap p.length cp) := (show adp.add 0 = adp by simp [Addr.add]) ▸ hcp'
    have hth := jtakeHead_any Ap p cp G 106 _ 0 0 wr (HPR.out.more (by omega)) hpG hpc (by omega) hcpm HS.out.blk rfl rfl
    have HTH := Lib.hid hth
    clear hth
    go_wp2_with fail
    refine HTH.out.mono ?_
    rintro e w2 ⟨rfl, hg2, f, t, hB2, hq⟩
    have hS2 := HS.out.headed hg2 (f := f) (t := t) hB2
    have hBl2 : Below G w1 w2 := HB.out.grown hg2 (by omega) (fun j hj => by injection hj with hj; omega)
    have HS2 := Lib.hid hS2
    have HB2 := Lib.hid hBl2
    have HQ := Lib.hid hq
    clear HTH hg2 hB2 hq hS2 hBl2
    cases htk : takeHd p with
    | none =>
     have hN := RdI.headBad (k := k) HPI.out htk
     have HN := Lib.hid hN
     clear hN
     have hK2 := HK1.out.below HB2.out (by rw [HG.out]; exact HR1.out)
     have hz : (readSeg k b).isSome = false := by rw [HN.out]; rfl
     have HZ := Lib.hid hz
     have g0 : w2.cell? ⟨G, 0, none⟩ = some (.int .i64 k) := HS2.out.blk.cell 0
     have g1 : w2.cell? ⟨G, 1, none⟩ = some (.int .i64 f) := HS2.out.blk.cell 1
     have g2 : w2.cell? ⟨G, 2, none⟩ = some (.int .i64 t) := HS2.out.blk.cell 2
     have g3 : w2.cell? ⟨G, 3, none⟩ = some (.slice Al _ cl) := HS2.out.blk.cell 3
     have g4 : w2.cell? ⟨G, 4, none⟩ = some (.slice Ae _ ce) := HS2.out.blk.cell 4
     have g5 : w2.cell? ⟨G, 5, none⟩ = some (.bool tn) := HS2.out.blk.cell 5
     have r0 : w2.cell? ⟨w.heap.size, 0, none⟩ = some _ := hK2.cell 0
     have r1 : w2.cell? ⟨w.heap.size, 1, none⟩ = some _ := hK2.cell 1
     have r2 : w2.cell? ⟨w.heap.size, 2, none⟩ = some _ := hK2.cell 2
     have r3 : w2.cell? ⟨w.heap.size, 3, none⟩ = some _ := hK2.cell 3
     have r4 : w2.cell? ⟨w.heap.size, 4, none⟩ = some _ := hK2.cell 4
     have r5 : w2.cell? ⟨w.heap.size, 5, none⟩ = some _ := hK2.cell 5
     have z0 : w2.frozen? ⟨w.heap.size, 0, none⟩ = false := hK2.frozen _
     have z1 : w2.frozen? ⟨w.heap.size, 1, none⟩ = false := hK2.frozen _
     have z2 : w2.frozen? ⟨w.heap.size, 2, none⟩ = false := hK2.frozen _
     have z3 : w2.frozen? ⟨w.heap.size, 3, none⟩ = false := hK2.frozen _
     have z4 : w2.frozen? ⟨w.heap.size, 4, none⟩ = false := hK2.frozen _
     have z5 : w2.frozen? ⟨w.heap.size, 5, none⟩ = false := hK2.frozen _
     clear hK2 hz
     go_wp2_with fail
     (try simp only [Exit.inBlock, Exit.then])
     refine bodyPost_ret (v := .tuple #[.agg #[.int .i64 k, .int .i64 f, .int .i64 t, .slice Al rs.length cl, .slice Ae 0 ce, .bool tn], .bool false]) (by rw [results_cell_tmp rfl]; go_simp <;> rfl) rfl ?_
     refine ⟨?_, _, by rw [HZ.out], ⟨_, _, _, _, _, _, _, _, _, _, rfl⟩, fun s torn h => by rw [HN.out] at h; cases h⟩
     have hb2 : Below w.heap.size w w2 := HB1.out.trans (HB2.out.mono (by have := HG.out; omega))
     have hz2 := hb2.size
     repeat (first | exact hb2 | refine below_set ?_ _ _ _ (Nat.le_refl _))
    | some q =>
     obtain ⟨f', t'⟩ := q
     have e := HQ.out _ htk
     injection e with e1 e2
     subst e1 e2
     have hRN := HRI.out.head HPI.out hpl htk
     have HPR2 := Lib.hid (HP1.out.below HB2.out)
     have hgs2 : G < w2.heap.size := HS2.out.blk.lt
     have hcl := jclosed_one Ap p cp w2 (HPR2.out.more (by omega)) (by omega)
     have HCL := Lib.hid hcl
     clear hcl
     go_wp2_with fail
     refine HCL.out.mono ?_
     rintro e w3 ⟨v3, rfl, hg3, hb3⟩
     obtain ⟨A3, c3, rfl, _, _, _⟩ := hg3.shape
     have hS3 := HS2.out.new hb3
     have hB3 : Below G w1 w3 := HB2.out.trans (hb3.mono (by omega))
     have hcl := closeS_lenJ hpl
     have HRN := Lib.hid hRN
     generalize (closeS p).length = clo at hcl HRN
     have hat := HRI.out.at_
     have hw : IntKind.i64.wrap ((0 : Int) + (clo : Int)) = (0 : Int) + (clo : Int) := IntWalk.i64_in _ (by omega)
     have hw2 : IntKind.i64.wrap (clo : Int) = (clo : Int) := IntWalk.i64_in _ (by omega)
     have g4 : w3.cell? ⟨G, 4, none⟩ = some (.slice Ae _ ce) := hS3.blk.cell 4
     have gz : w3.frozen? ⟨G, 4, none⟩ = false := hS3.blk.frozen _
     have HS3 := Lib.hid hS3
     have HB3 := Lib.hid hB3
     have hgs3 : G < w3.heap.size := hS3.blk.lt
     clear HCL hg3 hb3 hS3 hB3 hRN
     have HSB := Lib.hid (HS3.out.new ((Below.refl _ w3).alloc (Nat.le_refl _) (.cells [Value.int .i64 (clo : Int)].toArray 3)))
     have HBB := Lib.hid (HB3.out.trans (((Below.refl _ w3).alloc (Nat.le_refl _) (.cells [Value.int .i64 (clo : Int)].toArray 3)).mono (by omega)))
     have hrd1 : Rd (w3.alloc (.cells [Value.int .i64 (clo : Int)].toArray 3)) (w3.heap.size + 1) (some ⟨w3.heap.size, 0, none⟩) [Value.int .i64 (clo : Int)] := rd_lit w3 3 [Value.int .i64 (clo : Int)]
     have HRD1 := Lib.hid hrd1
     have hlen := Nat.le_of_eq HRI.out.len.1
     have hszB := ((Below.refl _ w3).alloc (Nat.le_refl _) (.cells [Value.int .i64 (clo : Int)].toArray 3)).size
     clear hrd1
     go_wp2_with (at_builtin; go_must (refine wpList_append_any rfl (.tmp 58) (.tmp 60) 41 rfl (G + 1) 3 (.int .i64 0) 8 Tryz.underlying41 info_int rfl _ _ rfl HSB.out.ends (w3.heap.size + 1) (some ⟨w3.heap.size, 0, none⟩) 1 1 [.int .i64 (clo : Int)] rfl rfl HRD1.out (by simp [Value.oneCell']) (by unfold maxLen; simp <;> omega) (by simp <;> omega) (by omega) ?_; intro v4 w4 hown4 hg4 hf4; obtain ⟨A4, c4, hv4, q4, y4, hP4, hb4⟩ := seg_appended HSB.out HBB.out hown4 hg4; subst hv4; have HP4 := Lib.hid (And.intro hP4 hb4); clear hown4 hg4 hf4 hP4 hb4))
     go_roundw
     case rel => exact ⟨1, (clo : Int), _, rs, _, _, by omega, rfl, rfl, HRN, HRL, Lib.hid HP4.out.1, Lib.hid HP4.out.2⟩
     case measure => simp [intOf]; omega
   ·have hi1 : 0 < i := by omega
    have hi2 : ((i : Int) == 0) = false := by simp; omega
    have hi3 : (0 : Int) < (i : Int) := by omega
    have hln := HRI.out.len.2
    have hte := jtakeEntry_any Ap p cp G wr HS.out HPR.out hpc (by omega) hcpm (by have := HRI.out.first; omega) (by rw [HRL.out]; omega) (by have := HRI.out.last; omega)
    have HTE := Lib.hid hte
    clear hte
    go_wp2_with fail
    refine HTE.out.mono ?_
    rintro e w2 ⟨rfl, hb2, hq1, hq2⟩
    have HB2 := Lib.hid (HB.out.trans hb2)
    have HQ1 := Lib.hid hq1
    have HQ2 := Lib.hid hq2
    clear HTE hb2 hq1 hq2
    cases htk : takeEn p s.last.1 with
    | none =>
     have HN := Lib.hid (HRI.out.entryBad hi1 HPI.out htk)
     have HS2 := Lib.hid (HQ1.out htk)
     have hK2 := HK1.out.below HB2.out (by rw [HG.out]; exact HR1.out)
     have hz : (readSeg k b).isSome = false := by rw [HN.out]; rfl
     have HZ := Lib.hid hz
     have g0 : w2.cell? ⟨G, 0, none⟩ = some (.int .i64 s.k) := HS2.out.blk.cell 0
     have g1 : w2.cell? ⟨G, 1, none⟩ = some (.int .i64 s.first) := HS2.out.blk.cell 1
     have g2 : w2.cell? ⟨G, 2, none⟩ = some (.int .i64 s.term) := HS2.out.blk.cell 2
     have g3 : w2.cell? ⟨G, 3, none⟩ = some (.slice Al _ cl) := HS2.out.blk.cell 3
     have g4 : w2.cell? ⟨G, 4, none⟩ = some (.slice Ae _ ce) := HS2.out.blk.cell 4
     have g5 : w2.cell? ⟨G, 5, none⟩ = some (.bool tn) := HS2.out.blk.cell 5
     have r0 : w2.cell? ⟨w.heap.size, 0, none⟩ = some _ := hK2.cell 0
     have r1 : w2.cell? ⟨w.heap.size, 1, none⟩ = some _ := hK2.cell 1
     have r2 : w2.cell? ⟨w.heap.size, 2, none⟩ = some _ := hK2.cell 2
     have r3 : w2.cell? ⟨w.heap.size, 3, none⟩ = some _ := hK2.cell 3
     have r4 : w2.cell? ⟨w.heap.size, 4, none⟩ = some _ := hK2.cell 4
     have r5 : w2.cell? ⟨w.heap.size, 5, none⟩ = some _ := hK2.cell 5
     have z0 : w2.frozen? ⟨w.heap.size, 0, none⟩ = false := hK2.frozen _
     have z1 : w2.frozen? ⟨w.heap.size, 1, none⟩ = false := hK2.frozen _
     have z2 : w2.frozen? ⟨w.heap.size, 2, none⟩ = false := hK2.frozen _
     have z3 : w2.frozen? ⟨w.heap.size, 3, none⟩ = false := hK2.frozen _
     have z4 : w2.frozen? ⟨w.heap.size, 4, none⟩ = false := hK2.frozen _
     have z5 : w2.frozen? ⟨w.heap.size, 5, none⟩ = false := hK2.frozen _
     clear hK2 hz
     go_wp2_with fail
     (try simp only [Exit.inBlock, Exit.then])
     refine bodyPost_ret (v := .tuple #[.agg #[.int .i64 s.k, .int .i64 s.first, .int .i64 s.term, .slice Al rs.length cl, .slice Ae s.ends.length ce, .bool tn], .bool false]) (by rw [results_cell_tmp rfl]; go_simp <;> rfl) rfl ?_
     refine ⟨?_, _, by rw [HZ.out], ⟨_, _, _, _, _, _, _, _, _, _, rfl⟩, fun s torn h => by rw [HN.out] at h; cases h⟩
     have hb2 : Below w.heap.size w w2 := HB1.out.trans (HB2.out.mono (by have := HG.out; omega))
     have hz2 := hb2.size
     repeat (first | exact hb2 | refine below_set ?_ _ _ _ (Nat.le_refl _))
    | some q =>
     obtain ⟨vq, vl', hS2⟩ := HQ2.out q htk
     obtain ⟨Al', cl', hvl', _⟩ := jrow_shape hS2.ents
     subst hvl'
     have HS2 := Lib.hid hS2
     clear hS2
     have hRN := HRI.out.entry hi1 HPI.out hpl htk
     have HPR2 := Lib.hid (HP1.out.below HB2.out)
     have hgs2 : G < w2.heap.size := HS2.out.blk.lt
     have hcl := jclosed_one Ap p cp w2 (HPR2.out.more (by omega)) (by omega)
     have HCL := Lib.hid hcl
     clear hcl
     go_wp2_with fail
     refine HCL.out.mono ?_
     rintro e w3 ⟨v3, rfl, hg3, hb3⟩
     obtain ⟨A3, c3, rfl, _, _, _⟩ := hg3.shape
     have hS3 := HS2.out.new hb3
     have hB3 : Below G w1 w3 := HB2.out.trans (hb3.mono (by omega))
     have hcl := closeS_lenJ hpl
     have HRN := Lib.hid hRN
     generalize (closeS p).length = clo at hcl HRN
     have hat := HRI.out.at_
     have hw : IntKind.i64.wrap (a + (clo : Int)) = a + (clo : Int) := IntWalk.i64_in _ (by omega)
     have hw2 : IntKind.i64.wrap (clo : Int) = (clo : Int) := IntWalk.i64_in _ (by omega)
     have g4 : w3.cell? ⟨G, 4, none⟩ = some (.slice Ae _ ce) := hS3.blk.cell 4
     have gz : w3.frozen? ⟨G, 4, none⟩ = false := hS3.blk.frozen _
     have HS3 := Lib.hid hS3
     have HB3 := Lib.hid hB3
     have hgs3 : G < w3.heap.size := hS3.blk.lt
     clear HCL hg3 hb3 hS3 hB3 hRN
     have HSB := Lib.hid (HS3.out.new ((Below.refl _ w3).alloc (Nat.le_refl _) (.cells [Value.int .i64 (a + (clo : Int))].toArray 3)))
     have HBB := Lib.hid (HB3.out.trans (((Below.refl _ w3).alloc (Nat.le_refl _) (.cells [Value.int .i64 (a + (clo : Int))].toArray 3)).mono (by omega)))
     have hrd1 : Rd (w3.alloc (.cells [Value.int .i64 (a + (clo : Int))].toArray 3)) (w3.heap.size + 1) (some ⟨w3.heap.size, 0, none⟩) [Value.int .i64 (a + (clo : Int))] := rd_lit w3 3 [Value.int .i64 (a + (clo : Int))]
     have HRD1 := Lib.hid hrd1
     have hlen := Nat.le_of_eq HRI.out.len.1
     have hszB := ((Below.refl _ w3).alloc (Nat.le_refl _) (.cells [Value.int .i64 (a + (clo : Int))].toArray 3)).size
     clear hrd1
     go_wp2_with (at_builtin; go_must (refine wpList_append_any rfl (.tmp 58) (.tmp 60) 41 rfl (G + 1) 3 (.int .i64 0) 8 Tryz.underlying41 info_int rfl _ _ rfl HSB.out.ends (w3.heap.size + 1) (some ⟨w3.heap.size, 0, none⟩) 1 1 [.int .i64 (a + (clo : Int))] rfl rfl HRD1.out (by simp [Value.oneCell']) (by unfold maxLen; simp <;> omega) (by simp <;> omega) (by omega) ?_; intro v4 w4 hown4 hg4 hf4; obtain ⟨A4, c4, hv4, q4, y4, hP4, hb4⟩ := seg_appended HSB.out HBB.out hown4 hg4; subst hv4; have HP4 := Lib.hid (And.intro hP4 hb4); clear hown4 hg4 hf4 hP4 hb4))
     go_roundw
     case rel => exact ⟨i + 1, a + (clo : Int), _, rs ++ [_], _, _, by omega, by go_num, rfl, HRN, Lib.hid (by rw [List.length_append, List.length_append, HRL.out]; rfl), Lib.hid HP4.out.1, Lib.hid HP4.out.2⟩
     case measure => simp [intOf]; omega
  ·obtain rfl : i = xs.length := by omega
   have hD := HRI.out.done HGR.out.len
   obtain ⟨Al, cl, hvl, _⟩ := jrow_shape HS.out.ents
   obtain ⟨Ae, ce, hve, _, _, _⟩ := Own.shape HS.out.ends
   rw [List.length_map] at hve
   subst hvl hve
   have hK2 := HK1.out.below HB.out (by rw [HG.out]; exact HR1.out)
   have htt : tn = decide ((rowsS b).2.2 ≠ 0) := by rw [HTN.out, HER.out]; by_cases h : (rowsS b).2.2 = 0 <;> simp [h, bne]
   rw [← htt] at hD
   have hz : (readSeg k b).isSome = true := by rw [hD]; rfl
   have HZ := Lib.hid hz
   have HD := Lib.hid hD
   have g0 : wr.cell? ⟨G, 0, none⟩ = some (.int .i64 s.k) := HS.out.blk.cell 0
   have g1 : wr.cell? ⟨G, 1, none⟩ = some (.int .i64 s.first) := HS.out.blk.cell 1
   have g2 : wr.cell? ⟨G, 2, none⟩ = some (.int .i64 s.term) := HS.out.blk.cell 2
   have g3 : wr.cell? ⟨G, 3, none⟩ = some (.slice Al _ cl) := HS.out.blk.cell 3
   have g4 : wr.cell? ⟨G, 4, none⟩ = some (.slice Ae _ ce) := HS.out.blk.cell 4
   have g5 : wr.cell? ⟨G, 5, none⟩ = some (.bool tn) := HS.out.blk.cell 5
   have r0 : wr.cell? ⟨w.heap.size, 0, none⟩ = some _ := hK2.cell 0
   have r1 : wr.cell? ⟨w.heap.size, 1, none⟩ = some _ := hK2.cell 1
   have r2 : wr.cell? ⟨w.heap.size, 2, none⟩ = some _ := hK2.cell 2
   have r3 : wr.cell? ⟨w.heap.size, 3, none⟩ = some _ := hK2.cell 3
   have r4 : wr.cell? ⟨w.heap.size, 4, none⟩ = some _ := hK2.cell 4
   have r5 : wr.cell? ⟨w.heap.size, 5, none⟩ = some _ := hK2.cell 5
   have z0 : wr.frozen? ⟨w.heap.size, 0, none⟩ = false := hK2.frozen _
   have z1 : wr.frozen? ⟨w.heap.size, 1, none⟩ = false := hK2.frozen _
   have z2 : wr.frozen? ⟨w.heap.size, 2, none⟩ = false := hK2.frozen _
   have z3 : wr.frozen? ⟨w.heap.size, 3, none⟩ = false := hK2.frozen _
   have z4 : wr.frozen? ⟨w.heap.size, 4, none⟩ = false := hK2.frozen _
   have z5 : wr.frozen? ⟨w.heap.size, 5, none⟩ = false := hK2.frozen _
   clear hK2 hz hD htt
   go_wp2_with fail
   (try simp only [Exit.inBlock, Exit.then])
   refine bodyPost_ret (v := .tuple #[.agg #[.int .i64 s.k, .int .i64 s.first, .int .i64 s.term, .slice Al rs.length cl, .slice Ae s.ends.length ce, .bool tn], .bool true]) (by rw [results_cell_tmp rfl]; go_simp <;> rfl) rfl ?_
   have hGG := HG.out
   have hRR := HR1.out
   have hb2 : Below w.heap.size w wr := HB1.out.trans (HB.out.mono (by omega))
   have hsg := HS.out
   refine ⟨?_, _, by rw [HZ.out], ⟨_, _, _, _, _, _, _, _, _, _, rfl⟩, fun s' torn' h => ?_⟩
   ·iterate 6 (refine below_set ?_ _ _ _ (Nat.le_refl _))
    exact hb2
   ·rw [HD.out] at h
    injection h with h
    injection h with e1 e2
    subst e1 e2
    refine ⟨G, rs, _, _, by omega, ?_, rfl, HRI.out.key, HRI.out.first, HRI.out.last, by have := HRI.out.len.2; rw [HGR.out.len] at this; omega, by have := HRI.out.len.1; rw [HGR.out.len] at this; omega⟩
    iterate 6 (refine SgAt.setR ?_ _ _ _ (by omega))
    exact hsg
end Go.Proofs.YtgeofijddhflaaaGreatDoor
set_option linter.unusedVariables false
set_option linter.unusedSimpArgs false
namespace Go.Proofs.YtgeofijddhflaaaGreatDoor
open Go.RowKit Oct
theorem row_set {w : World} {base g n c i : Nat} {e : TypeId} {size : Nat} {xs : List Value} (h : w.ownsRow base e size (.slice (some ⟨g, 0, none⟩) n c) n xs) (u : Value) : (w.setCell ⟨g, i, none⟩ u).ownsRow base e size (.slice (some ⟨g, 0, none⟩) n c) n (xs.set i u) := by
 rcases h.2 with ⟨hv, _⟩ | ⟨g', cap, cur, hv, hb, hg, hn, hm, hs, ht⟩
 ·cases hv
 ·injection hv with e1 _ e3
  injection e1 with e1
  injection e1 with e1 _ _
  subst e1 e3
  refine ⟨by rw [List.length_set]; exact h.1, .inr ⟨g, c, cur.setIfInBounds i u, rfl, hb, Blk.set_ hg i u, hn, hm, by simp [hs], ?_⟩⟩
  rw [Array.toList_setIfInBounds, List.take_set, ht]
theorem erCells_set : ∀ (l : List EntR) {k : Nat} (hk : k < l.length) (v : Value), (erCells l).set (k * 4 + 3) v = erCells (l.set k ⟨v, l[k].e⟩)
 | [], k, hk, v => by simp at hk
 | x :: r, 0, hk, v => rfl
 | x :: r, k + 1, hk, v => by
  have ih := erCells_set r (k := k) (by simpa using hk) v
  have e1 : erCells (x :: r) = erOne x ++ erCells r := by unfold erCells; rw [List.flatMap_cons]
  rw [e1, List.set_append_right _ _ (by simp [erOne]; omega)]
  have e2 : (k + 1) * 4 + 3 - (erOne x).length = k * 4 + 3 := by simp [erOne]; omega
  rw [e2, ih, List.set_cons_succ]
  unfold erCells
  rw [List.flatMap_cons]
  rfl
set_option maxHeartbeats 2000000 in
set_option maxRecDepth 100000 in
theorem jcopied_any {F : Nat → Prop} (A : Option Addr) (rs : List EntR) (c : Nat) (w : World) (hr : RdF w F A (erCells rs)) (hd : ∀ q ∈ rs, DatF w F q.v q.e.b) (hF : ∀ k, F k → k < w.heap.size) (hn : rs.length ≤ 1099511627776) (hl : ∀ q ∈ rs, q.e.b.length ≤ 140737488351232) :
  Calls Tryz.prog 64 #[.slice A rs.length c] w fun e w' => ∃ v rs', e = .returned v ∧ w'.ownsRow w.heap.size 65 4 v rs.length (erCells rs') ∧ rs'.map EntR.e = rs.map EntR.e ∧ (∀ q ∈ rs', Bs w' w.heap.size q.v q.e.b) ∧ Below w.heap.size w w' := by
 have hone : ∀ u ∈ erCells rs, u.oneCell' = true := by
  intro u hu
  obtain ⟨q, hq, h⟩ := List.mem_flatMap.1 hu
  obtain ⟨Aq, cq, hv, _⟩ := hd q hq
  unfold erOne at h
  simp only [List.mem_cons, List.not_mem_nil, or_false] at h
  rcases h with rfl | rfl | rfl | rfl
  ·rfl
  ·rfl
  ·rfl
  ·rw [hv]; rfl
 have HCL := Lib.hid (jcloneE_any A rs.length c (erCells rs) w hr.rd (by rw [erCells_len]; omega) hone hn)
 have HD := Lib.hid hd
 have HF := Lib.hid hF
 have HL := Lib.hid hl
 clear hr hd hF hone hl
 go_enter Tryz.func64, Tryz.ntmps64
 go_wp2_with fail
 refine HCL.out.mono ?_
 rintro e w1 ⟨v1, rfl, hv1, hb1⟩
 obtain ⟨A1, c1, rfl, k1, k2, k3⟩ := jrow_shape hv1
 have hs1 := hb1.size
 have HV1 := Lib.hid hv1
 have HB1 := Lib.hid hb1
 clear hv1 hb1 HCL k3
 go_wp2_with fail
 go_loopw [9, 4] (fun i _ wr => ∃ (k : Nat) (ra : List EntR), k ≤ rs.length ∧ i = .int .i64 k ∧ Hid (ra.length = k) ∧ Hid (ra.map EntR.e = (rs.take k).map EntR.e) ∧ Hid (wr.ownsRow w.heap.size 65 4 (.slice A1 rs.length c1) rs.length (erCells (ra ++ rs.drop k))) ∧ Hid (∀ q ∈ ra, Bs wr w.heap.size q.v q.e.b) ∧ Hid (Below w.heap.size w wr)) (fun i _ _ => rs.length - (intOf i).toNat)
 case atStart => exact ⟨0, [], by omega, rfl, Lib.hid rfl, Lib.hid rfl, HV1, Lib.hid (fun q hq => by cases hq), HB1⟩
 case round =>
  obtain ⟨k, ra, hk, rfl, HRL, HRE, HO, HQ, HB⟩ := hrel
  have hsr := HB.out.size
  by_cases hlt : k < rs.length
  ·obtain ⟨Ax, cx, hv, h1, h2, h3⟩ := jrow_shape HO.out
   obtain ⟨gr, cur, rfl, hgb, hgl, hgh, hgs, hgc⟩ := h3 (by omega)
   injection hv with hv hv2 hv3
   subst hv hv3
   clear hv2
   obtain ⟨q, hq⟩ : ∃ q, q = rs[k] := ⟨_, rfl⟩
   have hqm : q ∈ rs := by rw [hq]; exact List.getElem_mem hlt
   have hdk : rs.drop k = q :: rs.drop (k + 1) := by rw [hq]; exact List.drop_eq_getElem_cons hlt
   obtain ⟨Aq, cq, hqv, hq1, hq2, hqr⟩ := HD.out q hqm
   have hidx : k < (ra ++ rs.drop k).length := by rw [List.length_append, HRL.out, List.length_drop]; omega
   have hgk : (ra ++ rs.drop k)[k] = q := by
    rw [List.getElem_append_right (by rw [HRL.out]; omega)]
    simp only [hdk, HRL.out, Nat.sub_self, List.getElem_cons_zero]
   have c3 : wr.cell? ⟨gr, k * 4 + 3, none⟩ = some (.slice Aq q.e.b.length cq) := by
    refine hgc _ _ ?_
    rw [erCells_at _ hidx (by omega), hgk, ← hqv]
    rfl
   have z3 : wr.frozen? ⟨gr, k * 4 + 3, none⟩ = false := by simp [World.frozen?, hgh]
   have HC := Lib.hid (clone_any Aq q.e.b q.e.b.length cq rfl wr ((hqr.keep hsr (fun k hk => HB.out.block k (HF.out k hk))).rd) (HL.out q hqm))
   obtain ⟨nb, hnb⟩ : ∃ n, n = q.e.b.length := ⟨_, rfl⟩
   have hset : (erCells (ra ++ rs.drop k)).set (k * 4 + 3) = fun v => erCells ((ra ++ [⟨v, q.e⟩]) ++ rs.drop (k + 1)) := by
    funext v
    rw [erCells_set _ hidx, hgk, List.set_append_right _ _ (by rw [HRL.out]; omega), HRL.out, Nat.sub_self, hdk, List.set_cons_zero]
    simp
   have HST := Lib.hid hset
   have hmap : (rs.take (k + 1)).map EntR.e = (rs.take k).map EntR.e ++ [q.e] := by
    rw [List.take_add_one, List.getElem?_eq_getElem hlt, ← hq]
    simp
   have HMP := Lib.hid hmap
   rw [← hnb] at c3 HC
   clear hset hmap hq hqm hdk hqr hidx hgk h3 hgh hgs hgc hqv hnb cur
   go_wp2_with fail
   refine HC.out.mono ?_
   rintro e w3 ⟨v3, rfl, hv3, hb3⟩
   obtain ⟨A3, c3', rfl, y1, y2, y3⟩ := bs_shape hv3
   have hs3 := hb3.size
   have d3 : w3.cell? ⟨gr, k * 4 + 3, none⟩ = some (.slice Aq nb cq) := (hb3.cell (p := ⟨gr, k * 4 + 3, none⟩) hgl).trans c3
   have e3 : w3.frozen? ⟨gr, k * 4 + 3, none⟩ = false := by
    simp only [World.frozen?] at z3 ⊢
    rw [hb3.block gr hgl]
    exact z3
   have HO3 := Lib.hid (frow_below HO.out hb3)
   have HQ3 := Lib.hid (fun q hq => Own.below (HQ.out q hq) hb3 (Nat.le_refl _))
   have HB3 := Lib.hid (HB.out.trans (hb3.mono hsr))
   have HV3 := Lib.hid (Own.mono hv3 hsr)
   clear c3 z3 hb3 hv3 y3 HC HO HQ HB
   go_wp2_with fail
   go_roundw
   case rel =>
    refine ⟨k + 1, ra ++ [⟨.slice A3 q.e.b.length c3', q.e⟩], by omega, by go_num, Lib.hid (by rw [List.length_append, HRL.out]; rfl), Lib.hid ?_, Lib.hid ?_, Lib.hid ?_, Lib.hid (below_set HB3.out _ _ _ hgb)⟩
    ·rw [HMP.out, List.map_append, HRE.out]; rfl
    ·have := row_set (i := k * 4 + 3) HO3.out (.slice A3 q.e.b.length c3')
     rw [HST.out] at this
     exact this
    ·intro x hx
     rcases List.mem_append.1 hx with hx | hx
     ·exact Own.kept (HQ3.out x hx) (grown_setCell w3 gr (k * 4 + 3) _) (jrow_type_ne (HQ3.out x hx) HO3.out (by decide))
     ·obtain rfl := List.mem_singleton.1 hx
      exact Own.kept HV3.out (grown_setCell w3 gr (k * 4 + 3) _) (jrow_type_ne HV3.out HO3.out (by decide))
   case measure => simp [intOf]; omega
  ·obtain rfl : k = rs.length := by omega
   go_wp2_with fail
   go_ret
   have h1 := HO.out
   have h2 := HRE.out
   rw [List.drop_length, List.append_nil] at h1
   rw [List.take_length] at h2
   exact ⟨_, ra, rfl, h1, h2, HQ.out, HB.out⟩
theorem wpList_append_row {P : Program} {w : World} {ops : Array Oper} {rest : List Oper} {o : Oper} {a : Act} {Q : Exit → Act → World → Prop} (hgd : o.guard = none) (s x : Operand) (t : TypeId)
  (ho : o.op = .call { callee := .builtin .append, args := #[s, x], argTypes := #[t, t] })
  (base : Nat) (e : TypeId) (z : Value) (size bytes : Nat) (ht : P.underlying t = some (.slice e)) (hinfo : (P.info? e).map (fun i => (i.zero, i.size, i.bytes)) = some (some z, size, bytes)) (hzs : z.cells.size = size) (hsz : 0 < size)
  (v : Value) (n : Nat) (xs : List Value) (hs : a.eval s = v) (hown : w.ownsRow base e size v n xs)
  (A : Option Addr) (m c : Nat) (news : List Value) (hx : a.eval x = .slice A m c) (hl : news.length = m * size) (hnews : 0 < m → ∃ ad, A = some ad ∧ ∀ j u, news[j]? = some u → w.cell? (ad.add j) = some u) (h1 : ∀ u ∈ news, u.oneCell' = true)
  (h63 : n + m ≤ maxLen) (hbytes : (n + m) * bytes ≤ 140737488355328) (hbase : base ≤ w.heap.size)
  (h : ∀ v' w', w'.ownsRow base e size v' (n + m) (xs ++ news) → w.grownBy w' v.ownBlock → wpList P ops Q rest (a.put o.dst v') w') : wpList P ops Q (o :: rest) a w := by
 rcases Nat.eq_zero_or_pos m with hm | hm
 ·subst hm
  have hn : news = [] := List.eq_nil_of_length_eq_zero (by simpa using hl)
  subst hn
  obtain ⟨i, hi, hz, hsize, hby⟩ := info_parts hinfo
  have hrun := jrun_append_zero (P := P) w base t o.type e i size ht hi v n xs hown A c
  refine wpList_plain hgd fun _ hK => ?_
  unfold Oper.wp execOp
  simp only [ho, resolve, invoke, builtin, Sem.run_bind, Sem.run_pure, Result.andThen_ok, List.map_toArray, List.map_cons, List.map_nil, hs, hx, hrun]
  refine hK _ _ (h v w ?_ (World.grownBy.refl _ _))
  rw [List.append_nil]
  exact hown
 ·obtain ⟨ad, rfl, hc⟩ := hnews hm
  exact wpList_append_size hgd s x t ho base e z size bytes ht hinfo hzs hsz v n xs hs hown ad m c news hx hl hc h1 h63 hbytes hbase fun v' w' h2 h3 _ => h v' w' h2 h3
theorem erCells_one {w : World} {B : Nat} {rs : List EntR} (h : ∀ q ∈ rs, Bs w B q.v q.e.b) : ∀ u ∈ erCells rs, u.oneCell' = true := by
 intro u hu
 obtain ⟨q, hq, hx⟩ := List.mem_flatMap.1 hu
 obtain ⟨Aq, cq, hv, _⟩ := bs_shape (h q hq)
 unfold erOne at hx
 simp only [List.mem_cons, List.not_mem_nil, or_false] at hx
 rcases hx with rfl | rfl | rfl | rfl
 ·rfl
 ·rfl
 ·rfl
 ·rw [hv]; rfl
set_option maxHeartbeats 2000000 in
set_option maxRecDepth 100000 in
theorem JAt.entries {F : Nat → Prop} {gj g : Nat} {j : JnP} {w : World} (h : JAt w F gj g j) (hF : ∀ k, F k → k < w.heap.size) (hn : j.ents.length ≤ 1099511627776) :
  Calls Tryz.prog 18 #[.pointer (some ⟨gj, 0, none⟩)] w fun e w' => ∃ v rs', e = .returned v ∧ w'.ownsRow w.heap.size 65 4 v rs'.length (erCells rs') ∧ rs'.map EntR.e = j.ents ∧ (∀ q ∈ rs', Bs w' w.heap.size q.v q.e.b) ∧ Below w.heap.size w w' := by
 obtain ⟨⟨A, c, ads, h1, h2, h3, h4, h5⟩, h6, _⟩ := h
 have c2 : w.cell? ⟨gj, 2, none⟩ = some (.slice A j.segs.length c) := h1.cell 2
 have H3 := Lib.hid h3
 have H4 := Lib.hid h4
 have H5 := Lib.hid h5
 have HF := Lib.hid hF
 have HN := Lib.hid hn
 clear h1 h2 h3 h4 h5 hF hn
 go_enter Tryz.func18, Tryz.ntmps18
 go_wp2_with fail
 go_loopw [11, 3, 5] (fun i v _ wr => ∃ (k : Nat) (ro : List EntR), k ≤ j.segs.length ∧ i = .int .i64 k ∧ Hid (wr.ownsRow w.heap.size 65 4 v ro.length (erCells ro)) ∧ Hid (ro.map EntR.e = ((j.segs.take k).map SegP.l).flatten) ∧ Hid (∀ q ∈ ro, Bs wr w.heap.size q.v q.e.b) ∧ Hid (Below w.heap.size w wr)) (fun i _ _ _ => j.segs.length - (intOf i).toNat)
 case atStart => exact ⟨0, [], by omega, rfl, Lib.hid (World.ownsRow_nil _ _ _ _), Lib.hid rfl, Lib.hid (fun q hq => by cases hq), Lib.hid (Below.refl _ _)⟩
 case round =>
  obtain ⟨k, ro, hk, rfl, HO, HE, HQ, HB⟩ := hrel
  have hsr := HB.out.size
  obtain ⟨Av, cv, hv, hx⟩ := jrow_shape HO.out
  subst hv
  clear hx
  by_cases hlt : k < j.segs.length
  ·have hka : k < ads.length := by rw [H4.out]; exact hlt
   obtain ⟨ab, ao, rfl, hfa, hal, hac⟩ := H3.out (by rw [List.length_map]; omega)
   obtain ⟨sg, hsg⟩ : ∃ s, s = j.segs[k] := ⟨_, rfl⟩
   have hM := H5.out k hka hlt
   rw [← hsg] at hM
   have hMr := hM.keep (w' := wr) hsr (fun k hk => HB.out.block k (HF.out k hk))
   obtain ⟨b, o, Al, cl, rs, Ae, ce, hab, hFb, hltb, d0, d1, d2, d3, d4, _, hrl, hmap, hdat, _⟩ := hMr.rd.cells
   have e0 : wr.cell? ⟨ab, ao + k, none⟩ = some (.pointer (some ⟨b, o, none⟩)) := (HB.out.cell (p := ⟨ab, ao + k, none⟩) hal).trans (hac k _ (by rw [List.getElem?_map, List.getElem?_eq_getElem hka, hab]; rfl))
   have hrsl : rs.length = sg.l.length := by rw [← hmap, List.length_map]
   have hlen := hM.len
   rw [← hrsl] at d3 hlen
   have HC := Lib.hid (jcopied_any Al rs cl wr hrl hdat (fun k hk => by have := HF.out k hk; omega) hlen (fun q hq => by have := hM.txt q.e (by rw [← hmap]; exact List.mem_map.2 ⟨q, hq, rfl⟩); omega))
   have htk : ((j.segs.take (k + 1)).map SegP.l).flatten = ((j.segs.take k).map SegP.l).flatten ++ sg.l := by
    rw [List.take_add_one, List.getElem?_eq_getElem hlt, ← hsg]
    simp
   have htot : ro.length + rs.length ≤ 1099511627776 := by
    have e1 : ro.length = (((j.segs.take k).map SegP.l).flatten).length := by rw [← HE.out, List.length_map]
    have e2 : (((j.segs.take (k + 1)).map SegP.l).flatten).length ≤ j.ents.length := by
     unfold JnP.ents
     rw [show j.segs = j.segs.take (k + 1) ++ j.segs.drop (k + 1) from (List.take_append_drop _ _).symm, List.map_append, List.flatten_append, List.length_append, List.take_append_drop]
     omega
    rw [htk, List.length_append] at e2
    have := HN.out
    omega
   have HTK := Lib.hid htk
   have HMP := Lib.hid hmap
   obtain ⟨nr, hnr⟩ : ∃ n, n = rs.length := ⟨_, rfl⟩
   rw [← hnr] at d3 HC htot
   have HNR := Lib.hid hnr
   clear htk hmap hsg hM hMr hab d0 d1 d2 d4 hrl hdat hrsl hlen hac hnr hka
   go_wp2_with fail
   refine HC.out.mono ?_
   rintro e w3 ⟨v3, rs', rfl, hv3, hm3, hq3, hb3⟩
   obtain ⟨A3, c3, rfl, y1, y2, y3⟩ := jrow_shape hv3
   have hs3 := hb3.size
   have HO3 := Lib.hid (frow_below HO.out hb3)
   have HQ3 := Lib.hid (fun q hq => Own.below (HQ.out q hq) hb3 (Nat.le_refl _))
   have HB3 := Lib.hid (HB.out.trans (hb3.mono hsr))
   have hrl' : rs'.length = nr := by rw [HNR.out, ← List.length_map EntR.e, hm3, List.length_map]
   have HY3 : Hid (0 < nr → ∃ ad, A3 = some ad ∧ ∀ j u, (erCells rs')[j]? = some u → w3.cell? (ad.add j) = some u) := Lib.hid (fun h0 => by
    obtain ⟨g3, cur, e, _, _, _, _, hc⟩ := y3 h0
    refine ⟨_, e, fun j u hu => ?_⟩
    rw [add_lit, Nat.zero_add]
    exact hc j u hu)
   have HM3 := Lib.hid hm3
   have HQN := Lib.hid (fun q hq => Own.mono (hq3 q hq) hsr)
   have HON := Lib.hid (erCells_one hq3)
   have HRL := Lib.hid hrl'
   have hfull : (erCells rs').length = nr * 4 := by rw [erCells_len, hrl']; omega
   have HFL := Lib.hid hfull
   have hx3 := HB3.out.size
   have HV3 := Lib.hid hv3
   clear hb3 hv3 hm3 hq3 y3 HC HO HQ HB hrl' hfull
   go_wp2_with (at_builtin; go_must (refine wpList_append_row rfl (.tmp 15) (.tmp 20) 40 rfl w.heap.size 65 (.agg #[.int .i64 0, .int .i64 0, .int .i64 0, .slice none 0 0]) 4 48 Tryz.underlying40 info_entry rfl (by decide) _ ro.length (erCells ro) rfl HO3.out A3 nr c3 (erCells rs') rfl HFL.out HY3.out HON.out (by unfold maxLen; omega) (by omega) (by omega) ?_; intro v6 w6 hown6 hg6; have HO6 := Lib.hid hown6; have HG6 := Lib.hid hg6; clear hown6 hg6))
   go_roundw
   case rel =>
    refine ⟨k + 1, ro ++ rs', by omega, by go_num, Lib.hid ?_, Lib.hid ?_, Lib.hid ?_, Lib.hid (HB3.out.grown HG6.out hx3 (fun k hk => (World.ownsRow.lt HO3.out k hk).1))⟩
    ·rw [List.length_append, erCells_append, HRL.out]
     exact HO6.out
    ·rw [List.map_append, HE.out, HM3.out, HTK.out, HMP.out]
    ·intro x hx
     rcases List.mem_append.1 hx with hx | hx
     ·exact Own.kept (HQ3.out x hx) HG6.out (jrow_type_ne (HQ3.out x hx) HO3.out (by decide))
     ·exact Own.kept (HQN.out x hx) HG6.out (jrow_type_ne (HQN.out x hx) HO3.out (by decide))
   case measure => simp [intOf]; omega
  ·obtain rfl : k = j.segs.length := by omega
   go_wp2_with fail
   go_ret
   have h2 := HE.out
   rw [List.take_length] at h2
   exact ⟨_, ro, rfl, HO.out, h2, HQ.out, HB.out⟩
end Go.Proofs.YtgeofijddhflaaaGreatDoor
set_option linter.unusedVariables false
set_option linter.unusedSimpArgs false
namespace Go.Proofs.YtgeofijddhflaaaGreatDoor
open Go.RowKit Go.Maps Oct
def eqE (x y : EntP) : Bool := (x.ix == y.ix) && (x.tm == y.tm) && (x.kd == y.kd) && (x.b == y.b)
def sameE : List EntP → List EntP → Bool
 | [], [] => true
 | x :: r, y :: s => eqE x y && sameE r s
 | _, _ => false
theorem eqE_iff (x y : EntP) : eqE x y = true ↔ x = y := by
 obtain ⟨a, b, c, d⟩ := x
 obtain ⟨a', b', c', d'⟩ := y
 unfold eqE
 simp only [Bool.and_eq_true, beq_iff_eq, EntP.mk.injEq]
 constructor
 ·rintro ⟨⟨⟨h1, h2⟩, h3⟩, h4⟩; exact ⟨h1, h2, h3, h4⟩
 ·rintro ⟨h1, h2, h3, h4⟩; exact ⟨⟨⟨h1, h2⟩, h3⟩, h4⟩
theorem sameE_iff : ∀ a b : List EntP, sameE a b = true ↔ a = b
 | [], [] => by simp [sameE]
 | [], _ :: _ => by simp [sameE]
 | _ :: _, [] => by simp [sameE]
 | x :: r, y :: s => by
  unfold sameE
  rw [Bool.and_eq_true, eqE_iff, sameE_iff r s]
  constructor
  ·rintro ⟨h1, h2⟩; rw [h1, h2]
  ·intro h; injection h with h1 h2; exact ⟨h1, h2⟩
theorem sameE_len {a b : List EntP} (h : a.length ≠ b.length) : sameE a b = false := by
 cases hs : sameE a b with
 | false => rfl
 | true => exact absurd (congrArg List.length ((sameE_iff a b).1 hs)) h
theorem sameE_step {a b : List EntP} {k : Nat} (ha : k < a.length) (hb : k < b.length) : sameE (a.drop k) (b.drop k) = (eqE a[k] b[k] && sameE (a.drop (k + 1)) (b.drop (k + 1))) := by
 rw [List.drop_eq_getElem_cons ha, List.drop_eq_getElem_cons hb]
 rfl
set_option maxHeartbeats 4000000 in
set_option maxRecDepth 100000 in
theorem jsame_any {F E : Nat → Prop} (A B : Option Addr) (ra rb : List EntR) (c d : Nat) (w : World) (ha : RdF w F A (erCells ra)) (hb : RdF w E B (erCells rb)) (da : ∀ q ∈ ra, DatF w F q.v q.e.b) (db : ∀ q ∈ rb, DatF w E q.v q.e.b) (hF : ∀ k, F k → k < w.heap.size) (hE : ∀ k, E k → k < w.heap.size) (hl : ra.length ≤ 1099511627776) (hl2 : rb.length ≤ 1099511627776) (hla : ∀ q ∈ ra, q.e.b.length ≤ 140737488351232) (hlb : ∀ q ∈ rb, q.e.b.length ≤ 140737488351232) :
  Calls Tryz.prog 23 #[.slice A ra.length c, .slice B rb.length d] w fun e w' => e = .returned (.bool (sameE (ra.map EntR.e) (rb.map EntR.e))) ∧ Below w.heap.size w w' := by
 obtain ⟨L, hL⟩ : ∃ l, l = ra.map EntR.e := ⟨_, rfl⟩
 obtain ⟨M, hM⟩ : ∃ l, l = rb.map EntR.e := ⟨_, rfl⟩
 have hLl : L.length = ra.length := by rw [hL, List.length_map]
 have hMl : M.length = rb.length := by rw [hM, List.length_map]
 rw [← hL, ← hM]
 obtain ⟨R, hR⟩ : ∃ r, r = sameE L M := ⟨_, rfl⟩
 rw [← hR]
 have HA := Lib.hid ha
 have HB := Lib.hid hb
 have HDA := Lib.hid da
 have HDB := Lib.hid db
 have HF := Lib.hid hF
 have HE := Lib.hid hE
 have HLA := Lib.hid hla
 have HLB := Lib.hid hlb
 have HL := Lib.hid hL
 have HM := Lib.hid hM
 have HLL := Lib.hid hLl
 have HML := Lib.hid hMl
 have HR := Lib.hid hR
 clear ha hb da db hF hE hla hlb hL hM hLl hMl hR
 go_enter Tryz.func23, Tryz.ntmps23
 by_cases hne : ra.length = rb.length
 ·have hnb : ((ra.length : Int) != (rb.length : Int)) = false := by rw [bne_eq_false_iff_eq]; omega
  have HNE := Lib.hid hne
  clear hne
  go_wp2_with fail
  go_loopw [5] (fun i wr => ∃ k : Nat, k ≤ ra.length ∧ i = .int .i64 k ∧ Hid (R = sameE (L.drop k) (M.drop k)) ∧ Hid (Below w.heap.size w wr)) (fun i _ => ra.length - (intOf i).toNat)
  case atStart => exact ⟨0, by omega, rfl, Lib.hid (by rw [HR.out]; rfl), Lib.hid (Below.refl _ _)⟩
  case round =>
   obtain ⟨k, hk, rfl, HRK, HBW⟩ := hrel
   by_cases hlt : k < ra.length
   ·have hlt2 : k < rb.length := by rw [← HNE.out]; exact hlt
    have kF : ∀ q, F q → wr.heap[q]? = w.heap[q]? := fun q hq => HBW.out.block q (HF.out q hq)
    have kE : ∀ q, E q → wr.heap[q]? = w.heap[q]? := fun q hq => HBW.out.block q (HE.out q hq)
    obtain ⟨ga, oa, rfl, _, gla, hca⟩ := (HA.out.keep HBW.out.size kF) (by rw [erCells_len]; omega)
    obtain ⟨gb, ob, rfl, _, glb, hcb⟩ := (HB.out.keep HBW.out.size kE) (by rw [erCells_len]; omega)
    have hata : ∀ i, i < 4 → (erCells ra)[k * 4 + i]? = (erOne ra[k])[i]? := fun i hi => erCells_at _ hlt hi
    have hatb : ∀ i, i < 4 → (erCells rb)[k * 4 + i]? = (erOne rb[k])[i]? := fun i hi => erCells_at _ hlt2 hi
    obtain ⟨Av, ca, hva, _, _, hra⟩ := (HDA.out ra[k] (List.getElem_mem hlt)).keep HBW.out.size kF
    obtain ⟨Bv, cb, hvb, _, _, hrb⟩ := (HDB.out rb[k] (List.getElem_mem hlt2)).keep HBW.out.size kE
    have hba := HLA.out ra[k] (List.getElem_mem hlt)
    have hbb := HLB.out rb[k] (List.getElem_mem hlt2)
    have hstep : R = (eqE ra[k].e rb[k].e && sameE (L.drop (k + 1)) (M.drop (k + 1))) := by
     rw [HRK.out, sameE_step (by rw [HLL.out]; exact hlt) (by rw [HML.out]; exact hlt2)]
     simp only [HL.out, HM.out, List.getElem_map]
    have a0 : wr.cell? ⟨ga, oa + k * 4, none⟩ = some (.int .i64 ra[k].e.ix) := hca (k * 4 + 0) _ (by rw [hata 0 (by omega)]; rfl)
    have a1 : wr.cell? ⟨ga, oa + k * 4 + 1, none⟩ = some (.int .i64 ra[k].e.tm) := hca (k * 4 + 1) _ (by rw [hata 1 (by omega)]; rfl)
    have a2 : wr.cell? ⟨ga, oa + k * 4 + 2, none⟩ = some (.int .i64 ra[k].e.kd) := hca (k * 4 + 2) _ (by rw [hata 2 (by omega)]; rfl)
    have a3 : wr.cell? ⟨ga, oa + k * 4 + 3, none⟩ = some (.slice Av ra[k].e.b.length ca) := hca (k * 4 + 3) _ (by rw [hata 3 (by omega), ← hva]; rfl)
    have b0 : wr.cell? ⟨gb, ob + k * 4, none⟩ = some (.int .i64 rb[k].e.ix) := hcb (k * 4 + 0) _ (by rw [hatb 0 (by omega)]; rfl)
    have b1 : wr.cell? ⟨gb, ob + k * 4 + 1, none⟩ = some (.int .i64 rb[k].e.tm) := hcb (k * 4 + 1) _ (by rw [hatb 1 (by omega)]; rfl)
    have b2 : wr.cell? ⟨gb, ob + k * 4 + 2, none⟩ = some (.int .i64 rb[k].e.kd) := hcb (k * 4 + 2) _ (by rw [hatb 2 (by omega)]; rfl)
    have b3 : wr.cell? ⟨gb, ob + k * 4 + 3, none⟩ = some (.slice Bv rb[k].e.b.length cb) := hcb (k * 4 + 3) _ (by rw [hatb 3 (by omega), ← hvb]; rfl)
    have hra2 := hra.rd
    have hrb2 := hrb.rd
    unfold eqE at hstep
    obtain ⟨x0, hx0⟩ : ∃ x, x = ra[k].e.ix := ⟨_, rfl⟩
    obtain ⟨x1, hx1⟩ : ∃ x, x = ra[k].e.tm := ⟨_, rfl⟩
    obtain ⟨x2, hx2⟩ : ∃ x, x = ra[k].e.kd := ⟨_, rfl⟩
    obtain ⟨x3, hx3⟩ : ∃ x, x = ra[k].e.b := ⟨_, rfl⟩
    obtain ⟨y0, hy0⟩ : ∃ x, x = rb[k].e.ix := ⟨_, rfl⟩
    obtain ⟨y1, hy1⟩ : ∃ x, x = rb[k].e.tm := ⟨_, rfl⟩
    obtain ⟨y2, hy2⟩ : ∃ x, x = rb[k].e.kd := ⟨_, rfl⟩
    obtain ⟨y3, hy3⟩ : ∃ x, x = rb[k].e.b := ⟨_, rfl⟩
    rw [← hx0, ← hx1, ← hx2, ← hx3, ← hy0, ← hy1, ← hy2, ← hy3] at hstep
    rw [← hx0] at a0
    rw [← hx1] at a1
    rw [← hx2] at a2
    rw [← hx3] at a3 hba hra2
    rw [← hy0] at b0
    rw [← hy1] at b1
    rw [← hy2] at b2
    rw [← hy3] at b3 hbb hrb2
    have q1 := fun n => str_of ca (hra2.drewN n)
    have q2 := fun n => str_of cb (hrb2.drewN n)
    have hltI : (k : Int) < (ra.length : Int) := by omega
    have hltI2 : (k : Int) < (rb.length : Int) := by omega
    have HST := Lib.hid hstep
    clear hca hcb hata hatb hva hvb hra hrb hra2 hrb2 kF kE hx0 hx1 hx2 hx3 hy0 hy1 hy2 hy3 hstep HRK hnb
    by_cases e0 : x0 = y0
    ·subst e0
     by_cases e : x1 = y1
     ·subst e
      by_cases e : x2 = y2
      ·subst e
       by_cases e : x3 = y3
       ·have HRN := Lib.hid (show R = sameE (L.drop (k + 1)) (M.drop (k + 1)) by rw [HST.out]; simp [e])
        subst e
        clear HST
        go_wp2_with fail
        go_quiet (fail)
        go_wp2_with fail
        go_roundw
        case rel => exact ⟨k + 1, by omega, by go_num, HRN, Lib.hid (below_drewN HBW.out _)⟩
        case measure => simp [intOf]; omega
       ·have hs : ((str x3).toList == (str y3).toList) = false := beq_eq_false_iff_ne.2 (fun h => e (by simpa [str, ByteArray.toList_eq] using h))
        have HRF := Lib.hid (show R = false by rw [HST.out]; simp [e])
        clear HST e
        go_wp2_with fail
        go_quiet (fail)
        go_wp2_with fail
        go_ret
        exact ⟨by rw [HRF.out]; rfl, below_drewN HBW.out _⟩
      ·have n2 : (x2 != y2) = true := bne_iff_ne.2 e
       have HRF := Lib.hid (show R = false by rw [HST.out]; simp [e])
       clear HST
       go_wp2_with fail
       go_quiet (fail)
       go_wp2_with fail
       go_ret
       exact ⟨by rw [HRF.out]; rfl, below_drewN HBW.out _⟩
     ·have n1 : (x1 != y1) = true := bne_iff_ne.2 e
      have HRF := Lib.hid (show R = false by rw [HST.out]; simp [e])
      clear HST
      go_wp2_with fail
      go_quiet (fail)
      go_wp2_with fail
      go_ret
      exact ⟨by rw [HRF.out]; rfl, below_drewN HBW.out _⟩
    ·have n0 : (x0 != y0) = true := bne_iff_ne.2 e0
     have HRF := Lib.hid (show R = false by rw [HST.out]; simp [e0])
     clear HST
     go_wp2_with fail
     go_quiet (fail)
     go_wp2_with fail
     go_ret
     exact ⟨by rw [HRF.out]; rfl, below_drewN HBW.out _⟩
   ·have HRT := Lib.hid (show R = true by rw [HRK.out, List.drop_eq_nil_of_le (by rw [HLL.out]; omega), List.drop_eq_nil_of_le (by rw [HML.out, ← HNE.out]; omega)]; rfl)
    clear HRK
    go_wp2_with fail
    go_ret
    exact ⟨by rw [HRT.out]; rfl, HBW.out⟩
 ·have hnb : ((ra.length : Int) != (rb.length : Int)) = true := bne_iff_ne.2 (by omega)
  have HRF := Lib.hid (show R = false by rw [HR.out]; exact sameE_len (by rw [HLL.out, HML.out]; exact hne))
  clear hne
  go_wp2_with fail
  go_ret
  exact ⟨by rw [HRF.out]; rfl, Below.refl _ _⟩
end Go.Proofs.YtgeofijddhflaaaGreatDoor
