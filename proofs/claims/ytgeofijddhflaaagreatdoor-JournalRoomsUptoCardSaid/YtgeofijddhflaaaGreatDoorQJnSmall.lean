/- pavanelaw22.small answers true. Condition: the library's variables stand as laid. -/
import Derived.Test.YtgeofijddhflaaaGreatDoorQJnSegW
import Derived.Test.YtgeofijddhflaaaGreatDoorQJnSave
import Derived.Test.YtgeofijddhflaaaGreatDoorQJnRoomT
import Derived.Test.YtgeofijddhflaaaGreatDoorQJnSame
import Derived.Test.YtgeofijddhflaaaGreatDoorQDiskFiles
import Derived.Test.YtgeofijddhflaaaGreatDoorQCalcFacts
import Derived.Lib.SlBytesConst
set_option linter.unusedVariables false
set_option linter.unusedSimpArgs false
namespace Go.Proofs.YtgeofijddhflaaaGreatDoor
open Go.RowKit Go.Maps Oct
set_option maxHeartbeats 8000000 in
set_option maxRecDepth 100000 in
theorem jopen_any {w : World} {base g m : Nat} {p : PWD} {room : Int} {es : List (Nm × FE)} (h : DiskAt w base g m p room es) {L : Nat} (hok : JDk L (dkOf p room es)) (hL : L ≤ 1000000000) (hbw : base ≤ w.heap.size) (hE : ∀ w', Below base w w' → Tab w' ∧ ErrR w') :
  Calls Tryz.prog 14 #[.pointer (some ⟨g, 0, none⟩)] w fun e w' => OpenTo w base g m es (openJ (dkOf p room es)) e w' := by
 have HH := Lib.hid h
 have HOK := Lib.hid hok
 have HE := Lib.hid hE
 have HLOW := Lib.hid (fun k hk => (h.lt k hk).1)
 obtain ⟨w0, hw0⟩ : ∃ W, W = w.alloc (.cells #[.pointer (some ⟨g, 0, none⟩)] 26) := ⟨_, rfl⟩
 have hB0 : Below w.heap.size w w0 := by rw [hw0]; exact (Below.refl _ w).alloc (Nat.le_refl _) _
 have hK0 : Blk w0 w.heap.size 26 #[.pointer (some ⟨g, 0, none⟩)] := by rw [hw0]; exact Blk.new w _ _
 have hs0 : w0.heap.size = w.heap.size + 1 := by rw [hw0] <;> simp
 have c0 : w0.cell? ⟨w.heap.size, 0, none⟩ = some (.pointer (some ⟨g, 0, none⟩)) := hK0.cell 0
 have HUP := Lib.hid (dup_any (h.below hB0))
 obtain ⟨d0, hd0⟩ : ∃ d, d = dkOf p room es := ⟨_, rfl⟩
 have hpo : p.off = d0.pw.off := by rw [hd0] <;> rfl
 rw [hpo] at HUP
 rw [← hd0]
 rw [← hd0] at HOK
 have HW0 := Lib.hid hw0
 have HK0 := Lib.hid hK0
 have HB0 := Lib.hid hB0
 have HD0 := Lib.hid hd0
 clear h hok hE hK0 hB0 hw0 hd0 hpo
 go_enter Tryz.func14, Tryz.ntmps14
 go_upto_region 1 with fail
 rw [← HW0.out]
 by_cases ho : d0.pw.off = true
 ·have HO := Lib.hid (openJ_off ho)
  rw [ho] at HUP
  clear ho
  go_wp2_with fail
  refine HUP.out.mono ?_
  rintro e w1 ⟨rfl, rfl⟩
  go_wp2_with fail
  go_ret2
  rw [HO.out]
  exact ⟨es, by rw [HD0.out]; exact HH.out.below HB0.out, by rw [HD0.out] <;> rfl, Fr.of_below _ HB0.out, fun k hk => .inl hk, rfl⟩
 ·have ho2 : d0.pw.off = false := by simpa using ho
  have HO := Lib.hid (openJ_up ho2)
  have HOFF := Lib.hid ho2
  rw [ho2] at HUP
  obtain ⟨w1, hw1⟩ : ∃ W, W = w0.alloc (.cells #[.int .i64 0, .int .i64 0, .slice none 0 0, .pointer (some ⟨g, 0, none⟩), .int .i64 0] 53) := ⟨_, rfl⟩
  have hB1 : Below w0.heap.size w0 w1 := by rw [hw1]; exact (Below.refl _ w0).alloc (Nat.le_refl _) _
  have hJ1 : Blk w1 w0.heap.size 53 #[.int .i64 0, .int .i64 0, .slice none 0 0, .pointer (some ⟨g, 0, none⟩), .int .i64 0] := by rw [hw1]; exact Blk.new w0 _ _
  have hs1 : w1.heap.size = w.heap.size + 1 + 1 := by rw [hw1, ← hs0] <;> simp
  rw [hs0] at hJ1
  have hO1 : OpS w base g m es w.heap.size (w.heap.size + 1) d0 0 0 (.slice none 0 0) 0 w1 es := by
   have hb01 := HB0.out.trans (hB1.mono (by omega))
   refine ⟨by rw [HD0.out]; exact HH.out.below hb01, by rw [HD0.out] <;> rfl, hJ1, HK0.out.below hB1 HK0.out.lt, Fr.of_below _ hb01, fun k hk => .inl hk, Nat.le_refl _, by omega⟩
  have HO1 := Lib.hid hO1
  have HW1 := Lib.hid hw1
  have HNM := Lib.hid (names_any hO1.disk (by have := jfe_len (pw := p) (room := room) (es := es) (L := L) (by rw [← HD0.out]; exact HOK.out); omega))
  clear ho ho2 hw1 hB1 hJ1 hO1
  go_upto_region 3 with (refine HUP.out.mono ?_; rintro e w1 ⟨rfl, rfl⟩)
  go_upto_region 4 with fail
  rw [← HW1.out]
  obtain ⟨B, hB⟩ : ∃ B : Bool, B = true ↔ (newR d0).1 ≠ 0 := by
   by_cases hh : (newR d0).1 ≠ 0
   ·exact ⟨true, by simp [hh]⟩
   ·exact ⟨false, by simpa using hh⟩
  have HBB := Lib.hid hB
  clear hB
  go_cut [32] from 22 to 32 (fun c wx => ∃ es1, c = .bool B ∧ Hid (OpS w base g m es w.heap.size (w.heap.size + 1) (newR d0).2 0 0 (.slice none 0 0) (newR d0).1 wx es1))
  case first =>
   have k0 : w1.cell? ⟨w.heap.size, 0, none⟩ = some (.pointer (some ⟨g, 0, none⟩)) := HO1.out.bx.cell 0
   go_wp2_with fail
   refine HNM.out.mono ?_
   rintro e w2 ⟨v2, rfl, hv2, hb2⟩
   obtain ⟨A2, c2, rfl, q1, q2, q3⟩ := hv2.shape
   rw [List.length_map] at q1 ⊢
   have HO2 := Lib.hid (HO1.out.below hb2)
   have hes : es.length ≤ 1000000000 := by have := (jfe_len (pw := p) (room := room) (es := es) (L := L) (by rw [← HD0.out]; exact HOK.out)).2; omega
   have HCT := Lib.hid (jcontains_any A2 (es.map (·.1)) c2 metaNew w2 (by rw [List.map_map]; exact q3) (by rw [List.length_map]; omega))
   rw [List.length_map] at HCT
   have hany : (es.map (·.1)).any (fun n => n == metaNew) = d0.fs.any fun q => q.1 == metaNew := by
    rw [HD0.out]
    show _ = (sec FE.f es).any _
    unfold sec
    rw [List.any_map, List.any_map]
    rfl
   rw [hany] at HCT
   have hs2 := hb2.size
   clear hv2 hb2 q3 HNM hany k0
   change Hid (Calls Tryz.prog _ #[.slice A2 es.length c2, .string ⟨#[109, 101, 116, 97, 46, 110, 101, 119]⟩] w2 _) at HCT
   by_cases hA : (d0.fs.any fun q => q.1 == metaNew) = true
   ·have hnew : newR d0 = d0.remove metaNew := by unfold newR; rw [if_pos hA]
    rw [hA] at HCT
    have HNR := Lib.hid hnew
    clear hA hnew
    go_wp2_with fail
    refine HCT.out.mono ?_
    rintro e w3 ⟨rfl, rfl⟩
    go_wp2_with fail
    refine (show Calls _ _ _ w2 _ from jmk_rm (gj := w.heap.size + 1) (g := g) metaNew (by decide) w2).mono ?_
    rintro e w3 ⟨v3, rfl, hb3, ⟨F3, caps3, rfl⟩, _, hact⟩
    have hs3 := hb3.size
    have hbA : Below w2.heap.size w2 (w3.alloc (.cells #[.func (.func F3) #[] caps3] 98)) := hb3.alloc hb3.size _
    have hO3 := HO2.out.below hbA
    have hrow : RdF (w3.alloc (.cells #[.func (.func F3) #[] caps3] 98)) (fun k => w2.heap.size ≤ k ∧ k < w3.heap.size + 1) (some ⟨w3.heap.size, 0, none⟩) [.func (.func F3) #[] caps3] := fun _ => ⟨w3.heap.size, 0, rfl, ⟨hs3, by omega⟩, by simp, fun j u hu => by
     rw [Nat.zero_add]
     exact blk_cells_at0 (Blk.new w3 98 #[.func (.func F3) #[] caps3]) j u hu⟩
    have hav : ∀ k (h : k < [Value.func (.func F3) #[] caps3].length) (h' : k < [JAct.rm metaNew].length), JActV (w3.alloc (.cells #[.func (.func F3) #[] caps3] 98)) (fun k => w2.heap.size ≤ k ∧ k < w3.heap.size + 1) (w.heap.size + 1) g [Value.func (.func F3) #[] caps3][k] [JAct.rm metaNew][k] := fun k h h' => by
     obtain rfl : k = 0 := by simp at h; exact h
     have hbw3 := (Below.refl w3.heap.size w3).alloc (Nat.le_refl _) (.cells #[.func (.func F3) #[] caps3] 98)
     exact ((hact (fun k => w2.heap.size ≤ k ∧ k < w3.heap.size) (fun k h1 h2 => ⟨h1, h2⟩)).keep hbw3.size (fun k hk => hbw3.block k hk.2)).mono (fun k hk => ⟨hk.1, by omega⟩)
    have HAC := Lib.hid (jacts_any hO3.disk hO3.jb (by omega) (some ⟨w3.heap.size, 0, none⟩) [.func (.func F3) #[] caps3] [.rm metaNew] 1 hrow rfl hav (fun k hk => ⟨by simp; omega, fun hf => by have := (HO2.out.disk.lt k hf).2; omega, by have := HO2.out.jb.lt; omega⟩) (fun w' hb' => (HE.out w' ((hO3.baseB HLOW.out hbw).trans hb')).1) (L := L) (by rw [DkD.eta' d0 HO2.out.fs]; exact HOK.out) (by show L + (0 + 0) ≤ _; omega) (by simp))
    rw [DkD.eta' d0 HO2.out.fs] at HAC
    have hrun : runJ [.rm metaNew] d0 = newR d0 := by
     rw [HNR.out]
     exact runJ_one (.rm metaNew) d0
    rw [hrun] at HAC
    have HO3 := Lib.hid hO3
    clear hact hb3 hbA hO3 hrow hav hrun HNR HCT
    go_wp2_with fail
    refine HAC.out.mono ?_
    rintro e w4 ⟨rfl, hJT⟩
    obtain ⟨es2, hO4, _, _⟩ := HO3.out.acts hJT
    have HO4 := Lib.hid hO4
    clear hO4 hJT HAC HO3
    go_wp2_with fail
    go_meet
    refine ⟨es2, congrArg Value.bool ?_, HO4⟩
    cases B with
    | true => exact bne_iff_ne.2 (HBB.out.1 rfl)
    | false =>
     rw [bne_eq_false_iff_eq]
     exact Classical.byContradiction fun hh => by have := HBB.out.2 hh; cases this
   ·have hnew : newR d0 = (0, d0) := by unfold newR; rw [if_neg hA]
    have hA2 : (d0.fs.any fun q => q.1 == metaNew) = false := eq_false_of_ne_true hA
    rw [hA2] at HCT
    have HNW := Lib.hid hnew
    clear hA hA2 hnew
    go_wp2_with fail
    refine HCT.out.mono ?_
    rintro e w3 ⟨rfl, rfl⟩
    go_wp2_with fail
    go_meet
    refine ⟨es, congrArg Value.bool ?_, Lib.hid (by rw [HNW.out]; exact HO2.out)⟩
    cases B with
    | true => exact absurd (by rw [HNW.out]) (HBB.out.1 rfl)
    | false => rfl
  case rest =>
   obtain ⟨es1, rfl, HA1⟩ := hcut
   clear HO1 HW1 HUP HNM c0 HK0 HB0 HW0 hs0 hs1
   cases B with
   | true =>
    have hne := HBB.out.1 rfl
    have hr : openJ d0 = ((newR d0).1, none, (newR d0).2) := by rw [HO.out, if_neg hne]
    have HR := Lib.hid hr
    obtain ⟨rc, hrc⟩ : ∃ x, x = (newR d0).1 := ⟨_, rfl⟩
    have j4 : wc.cell? ⟨w.heap.size + 1, 4, none⟩ = some (.int .i64 rc) := by rw [hrc]; exact HA1.out.jb.cell 4
    have HRC := Lib.hid hrc
    clear hne hr hrc
    go_wp2_with fail
    go_quiet (fail)
    go_wp2_with fail
    go_ret2
    exact (HA1.out.below (below_drewN (Below.refl _ wc) _)).endNone rc (by rw [HRC.out]; exact HR.out)
   | false =>
    have h0 : (newR d0).1 = 0 := Classical.byContradiction fun hh => by have := HBB.out.2 hh; cases this
    have hr : openJ d0 = openRest (newR d0).2 := by rw [HO.out, if_pos h0]
    have HR := Lib.hid hr
    have HOF1 := Lib.hid (newR_off HOFF.out h0)
    have HOK1 := Lib.hid (newR_ok HOK.out)
    have hA2 := HA1.out
    rw [h0] at hA2
    have HA2 := Lib.hid hA2
    obtain ⟨d1, hd1⟩ : ∃ x, x = (newR d0).2 := ⟨_, rfl⟩
    rw [← hd1] at HR HOF1 HOK1 HA2
    clear h0 hr hA2 hd1 HA1 HBB HO HOK HOFF
    have k0 : wc.cell? ⟨w.heap.size, 0, none⟩ = some (.pointer (some ⟨g, 0, none⟩)) := HA2.out.bx.cell 0
    have hd1e := DkD.eta' d1 HA2.out.fs
    have hj1 := jfe_len (pw := d1.pw) (room := d1.room) (es := es1) (L := L) (by rw [hd1e]; exact HOK1.out)
    have HLI := Lib.hid (jlist_any HA2.out.disk (by omega) (fun q hq => by
     have := HOK1.out.nm (q.1, q.2.f) (by rw [← HA2.out.fs]; exact List.mem_map.2 ⟨q, hq, rfl⟩)
     exact this) (fun q hq => by have := hj1.1 q hq; omega) HOF1.out (HE.out wc (HA2.out.baseB HLOW.out hbw)).2)
    rw [hd1e] at HLI
    have HJ1 := Lib.hid hj1
    clear hd1e hj1
    go_wp2_with fail
    refine HLI.out.mono ?_
    rintro e w3 ⟨hb3, v3, rfl, hL3⟩
    have HA3 := Lib.hid (HA2.out.below hb3)
    have hs3 := hb3.size
    obtain ⟨lo, hlo⟩ : ∃ n, n = wc.heap.size := ⟨_, rfl⟩
    have hgjc : w.heap.size + 1 < lo := by rw [hlo]; exact HA2.out.jb.lt
    have HFL := Lib.hid (show ∀ k, DFoot g m es1 k → k < lo from fun k hk => by rw [hlo]; exact (HA2.out.disk.lt k hk).2)
    have hlo3 : lo ≤ w3.heap.size := by rw [hlo]; exact hs3
    have HLOE := Lib.hid hlo
    clear hlo
    have HL3 := Lib.hid hL3
    have HME := Lib.hid (jmeta_any HA3.out.disk (fun q hq => by have := HJ1.out.1 q hq; omega) HA3.out.jb ⟨rfl, rfl⟩)
    rw [DkD.eta' d1 HA3.out.fs] at HME
    clear hb3 hL3 HLI HA2 k0
    obtain ⟨M, hM⟩ : ∃ M, M = readMetaS d1 := ⟨_, rfl⟩
    obtain ⟨LJ, hLJ⟩ : ∃ x, x = listJ d1 := ⟨_, rfl⟩
    have hrest : openRest d1 = restOf M LJ d1 := by rw [hM, hLJ]; exact openRest_eq d1
    have HREST := Lib.hid hrest
    have hlok : ∀ l, LJ = some l → l.length ≤ d1.fs.length ∧ (∀ y ∈ l, SegB y.1 ∧ (1 ≤ y.1.k ∧ y.1.k ≤ 999999999) ∧ (y.1.ends = [] ∧ y.1.l = [] ∨ SegOk y.1 ∧ 1 ≤ y.1.first) ∧ (∀ e ∈ y.1.l, e.b.length ≤ 65535) ∧ y.1.l.length ≤ 1000000000) ∧ listOk l = true := fun l hl => listJ_ok (d := d1) (by rw [← hLJ]; exact hl) (fun q hq => by
     rw [← HA3.out.fs] at hq
     obtain ⟨x, hx, rfl⟩ := List.mem_map.1 hq
     have := HJ1.out.1 x hx
     show x.2.f.b.length ≤ _
     omega)
    have HLOK := Lib.hid hlok
    have HMN := Lib.hid (show ∀ t v, M = some (t, v) → (-9223372036854775808 ≤ t ∧ t ≤ 9223372036854775807) ∧ (-9223372036854775808 ≤ v ∧ v ≤ 9223372036854775807) from fun t v e => readMetaS_num (d := d1) (by rw [← hM]; exact e))
    rw [← hM] at HME
    rw [← hLJ] at HL3 ⊢
    clear hM hLJ hrest hlok
    rcases M with _ | ⟨mt, mv⟩
    ·clear HL3 HLOK
     go_wp2_with fail
     refine HME.out.mono ?_
     rintro e w4 ⟨rfl, hg4, t, v, hB4, hq4⟩
     have HA4 := Lib.hid (HA3.out.put hg4 hB4)
     clear hg4 hB4 hq4 HME HA3
     go_wp2_with fail
     go_ret2
     exact HA4.out.endNone 53 (by rw [HR.out, HREST.out]; rfl)
    rcases LJ with _ | l
    ·clear HL3 HLOK
     go_wp2_with fail
     refine HME.out.mono ?_
     rintro e w4 ⟨rfl, hg4, t, v, hB4, hq4⟩
     have HA4 := Lib.hid (HA3.out.put hg4 hB4)
     clear hg4 hB4 hq4 HME HA3
     go_wp2_with fail
     go_ret2
     exact HA4.out.endNone 53 (by rw [HR.out, HREST.out]; rfl)
    obtain ⟨recs, hrow, hmap, hfnd⟩ := HL3.out l rfl
    obtain ⟨Al, cl, rfl, hcl1, hcl2, _⟩ := jrow_shape hrow
    have hlk := HLOK.out l rfl
    have hlst : LstAt w3 (fun k => lo ≤ k ∧ k < w3.heap.size) Al recs := LstAt.of_row hrow hfnd (fun q hq => (hlk.2.1 q.o (by rw [← hmap]; exact List.mem_map.2 ⟨q, hq, rfl⟩)).1) (fun k h1 h2 => ⟨by rw [HLOE.out]; exact h1, h2⟩)
    have hrl : recs.length = l.length := by rw [← hmap, List.length_map]
    have hrn : recs.length ≤ 1000000000 := by
     have h1 := hlk.1
     have h2 := HJ1.out.2
     have h3 : d1.fs.length = es1.length := by rw [← HA3.out.fs]; simp
     omega
    have HLST := Lib.hid hlst
    have HMAP := Lib.hid hmap
    have HLK := Lib.hid hlk
    clear hrow hmap hfnd hlk hlst HL3 HLOK hrl
    go_upto_region 7 with fail
    go_cut [48] from 42 to 48 (fun c wx => c = .bool false ∧ Hid (OpS w base g m es w.heap.size (w.heap.size + 1) d1 mt mv (.slice none 0 0) 0 wx es1) ∧ Hid (LstAt wx (fun k => lo ≤ k ∧ k < w3.heap.size) Al recs) ∧ w3.heap.size ≤ wx.heap.size)
    case first =>
     go_wp2_with fail
     refine HME.out.mono ?_
     rintro e w4 ⟨rfl, hg4, t, v, hB4, hq4⟩
     have e1 := hq4 _ rfl
     injection e1 with e1 e2
     subst e1 e2
     have HA4 := Lib.hid (HA3.out.put hg4 hB4)
     have HL4 := Lib.hid (HLST.out.keep hg4.size (fun k hk => hg4.block k hk.2 (fun e => by injection e with e; have := hk.1; omega)))
     have hs4 := hg4.size
     clear hg4 hB4 hq4 HME HA3 HLST
     go_wp2_with fail
     go_meet
     exact ⟨rfl, HA4, HL4, hs4⟩
    case rest =>
     obtain ⟨rfl, HA4, HL4, hwc3⟩ := hcut
     clear HME HA3 HLST
     obtain ⟨B3, hB3⟩ : ∃ B : Bool, B = true ↔ ∃ r q, recs = r ++ [q] ∧ q.s.ends = [] := by
      by_cases hh : ∃ r q, recs = r ++ [q] ∧ q.s.ends = []
      ·exact ⟨true, by simp [hh]⟩
      ·exact ⟨false, Iff.intro (fun h => by cases h) (fun h => absurd h hh)⟩
     have HB3 := Lib.hid hB3
     clear hB3
     go_upto_region 10 with fail
     go_cut [63] from 51 to 63 (fun c wx => c = .bool B3 ∧ wx = wc)
     case first =>
      rcases List.eq_nil_or_concat recs with h0 | ⟨r, q, h0⟩
      ·have hB : B3 = false := by
        cases B3 with
        | false => rfl
        | true =>
         obtain ⟨r, q, h1, _⟩ := HB3.out.1 rfl
         rw [h0] at h1
         simp at h1
       subst h0
       subst hB
       clear HB3 HLK HL4 HMAP
       go_wp2_with fail
       go_meet
       exact ⟨rfl, rfl⟩
      ·rw [List.concat_eq_append] at h0
       have hrl : recs.length = r.length + 1 := by rw [h0]; simp
       obtain ⟨gr, rfl, hFg, hgl, hcells⟩ := HL4.out.addr (by omega)
       have hgq : recs[r.length]'(by omega) = q := by simp [h0]
       have c4 : wc.cell? ⟨gr, r.length * 6 + 4, none⟩ = some (.slice q.ae q.s.ends.length q.ce) := (hcells r.length (by omega)).2 4 _ (by rw [hgq]; rfl)
       have hBq : B3 = true ↔ q.s.ends.length = 0 := by
        rw [HB3.out]
        constructor
        ·rintro ⟨r', q', h1, h2⟩
         rw [h0] at h1
         have := List.append_inj_right' h1 rfl
         injection this with this _
         subst this
         rw [h2]
         rfl
        ·intro h1
         exact ⟨r, q, h0, List.eq_nil_of_length_eq_zero h1⟩
       have HBQ := Lib.hid hBq
       obtain ⟨nk, hnk⟩ : ∃ n, n = q.s.ends.length := ⟨_, rfl⟩
       rw [← hnk] at c4 HBQ
       obtain ⟨n1, hn1⟩ : ∃ n, n = r.length := ⟨_, rfl⟩
       rw [← hn1] at c4
       have hrl2 : recs.length = n1 + 1 := by omega
       have hw2 : (recs.length : Int) - 1 = (n1 : Int) := by omega
       have hw3 : IntKind.i64.wrap (n1 : Int) = (n1 : Int) := IntWalk.i64_in _ (by omega)
       have hpos : (0 : Int) < (recs.length : Int) := by omega
       have hnl : n1 < recs.length := by omega
       have hnl2 : (n1 : Int) < (recs.length : Int) := by omega
       clear h0 hgq hBq hcells hnk hn1 HL4 HMAP HLK HB3 hrl hrl2
       by_cases hz : nk = 0
       ·have hB : B3 = true := HBQ.out.2 hz
        subst hz
        subst hB
        clear HBQ
        go_wp2_with fail
        go_meet
        exact ⟨rfl, rfl⟩
       ·have hB : B3 = false := by
         cases B3 with
         | false => rfl
         | true => exact absurd (HBQ.out.1 rfl) hz
        subst hB
        have hzb : ((nk : Int) == 0) = false := by simpa using hz
        clear HBQ
        go_wp2_with fail
        go_meet
        exact ⟨rfl, rfl⟩
     case rest =>
      obtain ⟨rfl, rfl⟩ := hcut
      have HRO := Lib.hid (recs_ok HMAP.out HLK.out.2)
      go_upto_if 63 with fail
      go_cut [5] from 64 to 83 (fun v wx => ∃ (recs2 : List FndR) (d2 : DkD) (es2 : List (Nm × FE)), v = .slice Al recs2.length cl ∧ recs2.length ≤ recs.length ∧ w3.heap.size ≤ wx.heap.size ∧ Hid (OpS w base g m es w.heap.size (w.heap.size + 1) d2 mt mv (.slice none 0 0) 0 wx es2) ∧ Hid (LstAt wx (fun k => lo ≤ k ∧ k < w3.heap.size) Al recs2) ∧ Hid (openJ d0 = openSegs (recs2.map FndR.o) (mt, mv) d2) ∧ Hid (JDk L d2) ∧ Hid (∀ q ∈ recs2, RecOk q) ∧ Hid (∀ k, lo ≤ k ∧ k < w3.heap.size → ¬ DFoot g m es2 k))
      case first =>
       cases B3 with
       | false =>
        have hno : ¬ ∃ r q, recs = r ++ [q] ∧ q.s.ends = [] := fun hh => by have := HB3.out.2 hh; cases this
        have hall : ∀ q ∈ recs, RecOk q := fun q hq => by
         rcases List.eq_nil_or_concat recs with h0 | ⟨r, q2, h0⟩
         ·rw [h0] at hq; cases hq
         ·rw [List.concat_eq_append] at h0
          rw [h0] at hq
          rcases List.mem_append.1 hq with h1 | h1
          ·obtain ⟨i, hi, rfl⟩ := List.getElem_of_mem h1
           have := HRO.out.1 i (by rw [h0]; simp; omega)
           simp only [h0, List.getElem_append_left hi] at this
           exact this
          ·obtain rfl := List.mem_singleton.1 h1
           exact HRO.out.2 q (by rw [h0]; simp) (fun h2 => hno ⟨r, q, h0, h2⟩)
        have hseg : openJ d0 = openSegs (recs.map FndR.o) (mt, mv) d1 := by
         rw [HR.out, HREST.out, ← HMAP.out]
         rcases List.eq_nil_or_concat recs with h0 | ⟨r, q2, h0⟩
         ·rw [h0]; rfl
         ·rw [List.concat_eq_append] at h0
          rw [h0]
          show restLast _ _ _ = _
          rw [restLast_snoc, if_neg]
          intro h1
          exact hno ⟨r, q2, h0, by simpa using h1⟩
        have HALL := Lib.hid hall
        have HSEG := Lib.hid hseg
        have HNF := Lib.hid (show ∀ k, lo ≤ k ∧ k < w3.heap.size → ¬ DFoot g m es1 k from fun k hk hf => by have := HFL.out k hf; omega)
        clear hno hall hseg
        go_wp2_with fail
        go_meet
        exact ⟨recs, d1, es1, rfl, Nat.le_refl _, hwc3, HA4, HL4, HSEG, HOK1, HALL, HNF⟩
       | true =>
        obtain ⟨r, q, h0, hqe⟩ := HB3.out.1 rfl
        have hrl : recs.length = r.length + 1 := by rw [h0]; simp
        obtain ⟨gr, rfl, hFg, hgl, hcells⟩ := HL4.out.addr (by omega)
        have hgq : recs[r.length]'(by omega) = q := by simp [h0]
        have c0 : wc.cell? ⟨gr, r.length * 6, none⟩ = some (.int .i64 q.s.k) := (hcells r.length (by omega)).2 0 _ (by rw [hgq]; rfl)
        have hqk : 1 ≤ q.s.k ∧ q.s.k ≤ 999999999 := (HLK.out.2.1 q.o (by rw [← HMAP.out, h0]; simp)).2.1
        have hqn := jName_len q.s.k (by omega)
        have HNA := Lib.hid (jname_any gr (r.length * 6) q.s.k (by omega) wc c0 (HE.out wc (HA4.out.baseB HLOW.out hbw)).1)
        have hL2 : LstAt wc (fun k => lo ≤ k ∧ k < w3.heap.size) (some ⟨gr, 0, none⟩) r := by
         have h1 := HL4.out.take r.length
         rw [h0] at h1
         simpa using h1
        have HL2 := Lib.hid hL2
        have hallr : ∀ x ∈ r, RecOk x := fun x hx => by
         obtain ⟨i, hi, rfl⟩ := List.getElem_of_mem hx
         have := HRO.out.1 i (by omega)
         simp only [h0, List.getElem_append_left hi] at this
         exact this
        have HALL := Lib.hid hallr
        have hseg : openJ d0 = if (d1.remove (jName q.s.k)).1 = 0 then openSegs (r.map FndR.o) (mt, mv) (d1.remove (jName q.s.k)).2 else ((d1.remove (jName q.s.k)).1, none, (d1.remove (jName q.s.k)).2) := by
         rw [HR.out, HREST.out, ← HMAP.out, h0]
         show restLast _ _ _ = _
         rw [restLast_snoc, if_pos (by simp [hqe])]
        have HSEG := Lib.hid hseg
        obtain ⟨nm, hnm⟩ : ∃ n, n = jName q.s.k := ⟨_, rfl⟩
        rw [← hnm] at HNA HSEG hqn
        have HOKR := Lib.hid (show JDk L (d1.remove nm).2 from HOK1.out.run (.rm nm))
        obtain ⟨n1, hn1⟩ : ∃ n, n = r.length := ⟨_, rfl⟩
        have HN1 := Lib.hid hn1
        rw [← hn1] at HNA
        have hw2 : (recs.length : Int) - 1 = (n1 : Int) := by omega
        have hw3 : IntKind.i64.wrap (n1 : Int) = (n1 : Int) := IntWalk.i64_in _ (by omega)
        have hnl : n1 < recs.length := by omega
        have hnl2 : (n1 : Int) < (recs.length : Int) := by omega
        have hn1c : n1 ≤ cl := by omega
        clear h0 hgq hcells hnm hn1 HL4 HMAP HLK HB3 hrl hL2 hallr hseg hqe hqk c0 HRO HREST
        go_wp2_with fail
        refine HNA.out.mono ?_
        rintro e w5 ⟨rfl, hb5⟩
        have HA5 := Lib.hid (HA4.out.below hb5)
        have HB5 := Lib.hid hb5
        have hs5 := hb5.size
        clear hb5 HNA
        go_wp2_with fail
        refine (show Calls _ _ _ w5 _ from jmk_rm (gj := w.heap.size + 1) (g := g) nm (by omega) w5).mono ?_
        rintro e w6 ⟨v6, rfl, hb6, ⟨F6, caps6, rfl⟩, _, hact⟩
        have HAC := Lib.hid (jacts_one HA5.out hb6 (.rm nm) F6 caps6 hact HLOW.out hbw HE.out HOK1.out (by show L + 0 ≤ _; omega))
        have hs6 := hb6.size
        clear hb6 hact HOK1
        go_wp2_with fail
        refine HAC.out.mono ?_
        rintro e w7 ⟨rfl, es2, hO7, hft7, hfr7⟩
        have hs7 := hfr7.size
        have hF4 : ∀ k, lo ≤ k ∧ k < w3.heap.size → w7.heap[k]? = wc.heap[k]? := fun k hk => (hfr7.block k (by omega) (by
         rintro (h1 | h1)
         ·have := HFL.out k h1; omega
         ·omega)).trans (HB5.out.block k (by omega))
        have HL7 := Lib.hid (HL2.out.keep (by omega) hF4)
        have HNF := Lib.hid (show ∀ k, lo ≤ k ∧ k < w3.heap.size → ¬ DFoot g m es2 k from fun k hk hf => by
         rcases hft7 k hf with h1 | h1
         ·have := HFL.out k h1; omega
         ·omega)
        have HO7 := Lib.hid hO7
        have hsz7 : w3.heap.size ≤ w7.heap.size := by omega
        clear hO7 hft7 hfr7 hF4 HAC HB5 HL2
        change Hid (OpS w base g m es w.heap.size (w.heap.size + 1) (d1.remove nm).2 mt mv (.slice none 0 0) (JAct.run d1 (JAct.rm nm)).1 w7 es2) at HO7
        change Hid (openJ d0 = if (JAct.run d1 (JAct.rm nm)).1 = 0 then openSegs (r.map FndR.o) (mt, mv) (d1.remove nm).2 else ((JAct.run d1 (JAct.rm nm)).1, none, (d1.remove nm).2)) at HSEG
        obtain ⟨rc, hrc⟩ : ∃ x, x = (JAct.run d1 (JAct.rm nm)).1 := ⟨_, rfl⟩
        rw [← hrc] at HO7 HSEG ⊢
        clear hrc
        by_cases hz : rc = 0
        ·subst hz
         have HSG := Lib.hid (HSEG.out.trans (if_pos rfl))
         clear HSEG
         go_wp2_with fail
         go_meet
         exact ⟨r, (d1.remove nm).2, es2, by rw [HN1.out], by have := HN1.out; omega, hsz7, HO7, HL7, HSG, HOKR, HALL, HNF⟩
        ·have HSG := Lib.hid (HSEG.out.trans (if_neg hz))
         have hbn : (rc != 0) = true := bne_iff_ne.2 hz
         have j4 : w7.cell? ⟨w.heap.size + 1, 4, none⟩ = some (.int .i64 rc) := HO7.out.jb.cell 4
         clear HSEG hz
         go_wp2_with fail
         go_quiet (fail)
         go_wp2_with fail
         go_ret2
         exact (HO7.out.below (below_drewN (Below.refl _ w7) _)).endNone rc HSG.out
      case rest =>
       obtain ⟨recs2, d2, es2, rfl, hr2, hw3, HA5, HL5, HSEG, HOK2, HALL, HNF⟩ := hcut
       have hn2 : recs2.length ≤ 1000000000 := by omega
       have hclr : recs2.length ≤ cl := by omega
       obtain ⟨nE, hnE⟩ : ∃ n, n = wc.heap.size := ⟨_, rfl⟩
       have HFE := Lib.hid (show ∀ k, DFoot g m es2 k → k < nE from fun k hk => by rw [hnE]; exact (HA5.out.disk.lt k hk).2)
       have hgE : w.heap.size + 1 < nE := by rw [hnE]; exact HA5.out.jb.lt
       rw [← hnE] at hw3
       have hwE : nE ≤ wc.heap.size := by omega
       obtain ⟨sl, hsl⟩ : ∃ sl, sl = recs2.map FndR.s := ⟨_, rfl⟩
       have HSL := Lib.hid hsl
       clear hnE hsl HMAP HLK HB3 HL4 HA4 HRO HREST HR HOK1 hrn HFL HLOE HOF1 HJ1 hr2 hcl1
       go_upto_block 0 with fail
       go_cut [] from 86 to 121 (fun wx => ∃ (st : Nat) (sv : Value), st ≤ recs2.length ∧ (0 < recs2.length → st < recs2.length) ∧ nE ≤ wx.heap.size ∧ Hid (lastRun [] sl = sl.drop st) ∧ Hid (OpS w base g m es w.heap.size (w.heap.size + 1) d2 mt mv sv 0 wx es2) ∧ Hid (LstAt wx (fun k => lo ≤ k ∧ k < w3.heap.size) Al recs2) ∧ Hid (Own wx nE 108 sv (ptrs Al st recs2.length)))
       case first =>
        go_wp2_with fail
        go_loopw [86, 8, 9] (fun i _ _ wr => ∃ (k st : Nat) (sv : Value), k ≤ recs2.length ∧ i = .int .i64 k ∧ st ≤ k ∧ (0 < k → st < k) ∧ nE ≤ wr.heap.size ∧ Hid (lastRun [] (sl.take k) = (sl.take k).drop st) ∧ Hid (OpS w base g m es w.heap.size (w.heap.size + 1) d2 mt mv sv 0 wr es2) ∧ Hid (LstAt wr (fun k => lo ≤ k ∧ k < w3.heap.size) Al recs2) ∧ Hid (Own wr nE 108 sv (ptrs Al st k))) (fun i _ _ _ => recs2.length - (intOf i).toNat)
        case atStart => exact ⟨0, 0, _, by omega, rfl, by omega, by omega, hwE, Lib.hid (by simp [lastRun]), HA5, HL5, Lib.hid (Own.nil _ _ _)⟩
        case round =>
         obtain ⟨k, st, sv, hk, rfl, hst, hst0, hwr, HRUN, HA, HL, HO⟩ := hrel
         by_cases hlt : k < recs2.length
         ·obtain ⟨gr, rfl, hFg, hgl, hcells⟩ := HL.out.addr (by omega)
          have hsk : ∀ i (hi : i < recs2.length), sl[i]'(by rw [HSL.out, List.length_map]; exact hi) = recs2[i].s := fun i hi => by simp only [HSL.out, List.getElem_map]
          have hkl : k < sl.length := by rw [HSL.out, List.length_map]; exact hlt
          obtain ⟨Bg, hBg⟩ : ∃ B : Bool, B = true ↔ ∃ h0 : 0 < k, sl[k].goesOn (sl[k - 1]'(by omega)) = false := by
           by_cases hh : ∃ h0 : 0 < k, sl[k].goesOn (sl[k - 1]'(by omega)) = false
           ·exact ⟨true, Iff.intro (fun _ => hh) (fun _ => rfl)⟩
           ·exact ⟨false, Iff.intro (fun h => by cases h) (fun h => absurd h hh)⟩
          have HBG := Lib.hid hBg
          have HSK := Lib.hid hsk
          have HCE := Lib.hid hcells
          clear hBg hsk hcells
          go_upto_region 18 with fail
          go_cut [104] from 93 to 104 (fun c wx => c = .bool Bg ∧ Hid (Below wr.heap.size wr wx))
          case first =>
           by_cases hk0 : 0 < k
           ·obtain ⟨j, hj⟩ : ∃ j, k = j + 1 := ⟨k - 1, by omega⟩
            have hjl : j < recs2.length := by omega
            have hgo := (HCE.out k hlt).1.goes (HCE.out j hjl).1 (by have := (HALL.out _ (List.getElem_mem hjl)).len; omega) (HALL.out _ (List.getElem_mem hlt)).first
            have hkj : sl[k - 1]'(by omega) = recs2[j].s := by
             have e : k - 1 = j := by omega
             simp only [e]
             exact HSK.out j hjl
            obtain ⟨gb, hgb⟩ : ∃ b, b = recs2[k].s.goesOn recs2[j].s := ⟨_, rfl⟩
            rw [← hgb] at hgo
            have hBv : Bg = !gb := by
             have h1 : Bg = true ↔ gb = false := by
              rw [HBG.out, hgb, ← HSK.out k hlt, ← hkj]
              exact ⟨fun ⟨_, h⟩ => h, fun h => ⟨hk0, h⟩⟩
             cases Bg <;> cases gb <;> simp_all
            have HGO := Lib.hid hgo
            have hkp : (0 : Int) < (k : Int) := by omega
            have hw2 : (k : Int) - 1 = (j : Int) := by omega
            have hw3 : IntKind.i64.wrap (j : Int) = (j : Int) := IntWalk.i64_in _ (by omega)
            have hjl2 : (j : Int) < (recs2.length : Int) := by omega
            subst hBv
            clear hgo hkj hgb hj HBG
            cases gb with
            | true =>
             go_wp2_with fail
             refine HGO.out.mono ?_
             rintro e w2 ⟨rfl, hb2⟩
             have HB2 := Lib.hid hb2
             clear hb2 HGO
             go_wp2_with fail
             go_meet
             exact ⟨rfl, HB2⟩
            | false =>
             go_wp2_with fail
             refine HGO.out.mono ?_
             rintro e w2 ⟨rfl, hb2⟩
             have HB2 := Lib.hid hb2
             clear hb2 HGO
             go_wp2_with fail
             go_meet
             exact ⟨rfl, HB2⟩
           ·have hBv : Bg = false := by
             cases Bg with
             | false => rfl
             | true => exact absurd (HBG.out.1 rfl).1 hk0
            obtain rfl : k = 0 := by omega
            subst hBv
            go_wp2_with fail
            go_meet
            exact ⟨rfl, Lib.hid (Below.refl _ _)⟩
          case rest =>
           obtain ⟨rfl, HBW⟩ := hcut
           have hsw := HBW.out.size
           have HAw := Lib.hid (HA.out.below HBW.out)
           have HLw := Lib.hid (HL.out.keep HBW.out.size (fun k hk => HBW.out.block k (by omega)))
           have HOw := Lib.hid (Own.below HO.out HBW.out (Nat.le_refl _))
           have hwc : nE ≤ wc.heap.size := by omega
           clear HBW HA HL HO
           go_upto_if 104 with fail
           go_cut [] from 105 to 108 (fun wx => ∃ (st2 : Nat) (sv2 : Value), st2 ≤ k ∧ nE ≤ wx.heap.size ∧ Hid (lastRun [] (sl.take (k + 1)) = (sl.take (k + 1)).drop st2) ∧ Hid (OpS w base g m es w.heap.size (w.heap.size + 1) d2 mt mv sv2 0 wx es2) ∧ Hid (LstAt wx (fun k => lo ≤ k ∧ k < w3.heap.size) (some ⟨gr, 0, none⟩) recs2) ∧ Hid (Own wx nE 108 sv2 (ptrs (some ⟨gr, 0, none⟩) st2 k)))
           case first =>
            cases Bg with
            | true =>
             obtain ⟨h0, hng⟩ := HBG.out.1 rfl
             have HRN := Lib.hid (run_new hkl h0 hst0 HRUN.out hng)
             have j2 : wc.cell? ⟨w.heap.size + 1, 2, none⟩ = some sv := HAw.out.jb.cell 2
             have z2 : wc.frozen? ⟨w.heap.size + 1, 2, none⟩ = false := HAw.out.jb.frozen _
             have HJB := Lib.hid (Blk.set_ HAw.out.jb 2 (.slice none 0 0))
             clear h0 hng
             go_wp2_with fail
             go_meet
             refine ⟨k, .slice none 0 0, Nat.le_refl _, by have := (grown_setCell wc (w.heap.size + 1) 2 (.slice none 0 0)).size; omega, HRN, Lib.hid (HAw.out.put (grown_setCell wc (w.heap.size + 1) 2 _) HJB.out), Lib.hid (HLw.out.keep (grown_setCell wc (w.heap.size + 1) 2 _).size (fun q hq => Below.heap_setCell _ _ _ _ (by show q ≠ w.heap.size + 1; omega))), Lib.hid ?_⟩
             unfold ptrs
             rw [Nat.sub_self]
             exact Own.nil _ _ _
            | false =>
             have hgg : ∀ h0 : 0 < k, sl[k].goesOn (sl[k - 1]'(by omega)) = true := fun h0 => by
              cases hh : sl[k].goesOn (sl[k - 1]'(by omega)) with
              | true => rfl
              | false => have := HBG.out.2 ⟨h0, hh⟩; cases this
             have HRN := Lib.hid (run_goes hkl hst0 HRUN.out hst hgg)
             clear hgg
             go_wp2_with fail
             go_meet
             exact ⟨st, sv, hst, hwc, HRN, HAw, HLw, HOw⟩
           case rest =>
            obtain ⟨st2, sv2, hst2, hwx2, HRN, HAx, HLx, HOx⟩ := hcut
            clear HAw HLw HOw HRUN HBG HCE
            obtain ⟨Ax, cx, hsv, _, _, _⟩ := HOx.out.shape
            subst hsv
            have HPL := Lib.hid (ptrs_len (some ⟨gr, 0, none⟩) st2 k)
            have hbA : Below wc.heap.size wc (wc.alloc (.cells #[.pointer (some ⟨gr, k * 6, none⟩)] 108)) := (Below.refl _ wc).alloc (Nat.le_refl _) _
            have HAy := Lib.hid (HAx.out.below hbA)
            have HLy := Lib.hid (HLx.out.keep hbA.size (fun q hq => hbA.block q (by omega)))
            have HOy := Lib.hid (Own.below HOx.out hbA (Nat.le_refl _))
            have hrdA := rd_lit wc 108 [.pointer (some ⟨gr, k * 6, none⟩)]
            have HRA := Lib.hid hrdA
            have j2 : wc.cell? ⟨w.heap.size + 1, 2, none⟩ = some (.slice Ax (ptrs (some ⟨gr, 0, none⟩) st2 k).length cx) := HAx.out.jb.cell 2
            have hsA := hbA.size
            have HNX : Hid (∀ v6 w6, Own w6 nE 108 v6 (ptrs (some ⟨gr, 0, none⟩) st2 k ++ [Value.pointer (some ⟨gr, k * 6, none⟩)]) → (wc.alloc (.cells #[.pointer (some ⟨gr, k * 6, none⟩)] 108)).grownBy w6 (Value.slice Ax (ptrs (some ⟨gr, 0, none⟩) st2 k).length cx).ownBlock → OpS w base g m es w.heap.size (w.heap.size + 1) d2 mt mv (.slice Ax (ptrs (some ⟨gr, 0, none⟩) st2 k).length cx) 0 w6 es2 ∧ w6.cell? ⟨w.heap.size + 1, 2, none⟩ = some (.slice Ax (ptrs (some ⟨gr, 0, none⟩) st2 k).length cx) ∧ w6.frozen? ⟨w.heap.size + 1, 2, none⟩ = false ∧ ∃ A6 c6, v6 = .slice A6 (ptrs (some ⟨gr, 0, none⟩) st2 k ++ [Value.pointer (some ⟨gr, k * 6, none⟩)]).length c6) := Lib.hid (fun v6 w6 hown6 hg6 => by
             have hA6 := HAy.out.grown hg6 (fun q hq => by
              have h1 := HOy.out.lt q hq
              exact ⟨by omega, by omega, fun hf => by have := HFE.out q hf; omega, by omega⟩)
             obtain ⟨A6, c6, hv6, _, _, _⟩ := hown6.shape
             exact ⟨hA6, hA6.jb.cell 2, hA6.jb.frozen _, A6, c6, hv6⟩)
            clear hbA hrdA HAx HLx HOx
            go_wp2_with (at_builtin; go_must (refine wpList_append_any rfl (.tmp 114) (.tmp 116) 49 rfl nE 108 (.pointer none) 8 Tryz.underlying49 info_segp rfl _ _ rfl HOy.out (wc.heap.size + 1) (some ⟨wc.heap.size, 0, none⟩) 1 1 [.pointer (some ⟨gr, k * 6, none⟩)] rfl rfl HRA.out (by simp [Value.oneCell']) (by rw [HPL.out]; unfold maxLen; omega) (by rw [HPL.out]; omega) (by simp <;> omega) ?_; intro v6 w6 hown6 hg6 hf6; have HO6 := Lib.hid hown6; have HG6 := Lib.hid hg6; have hs6 := hg6.size; obtain ⟨hA6, j26, z26, A6, c6, hv6⟩ := HNX.out v6 w6 hown6 hg6; subst hv6; have HA6 := Lib.hid hA6; clear hown6 hg6 hf6 hA6))
            go_roundw
            case rel =>
             have hgs := grown_setCell w6 (w.heap.size + 1) 2 (.slice A6 ((ptrs (some ⟨gr, 0, none⟩) st2 k).length + 1) c6)
             have hsz := hgs.size
             have hown := HO6.out
             rw [List.length_append] at hown
             refine ⟨k + 1, st2, .slice A6 ((ptrs (some ⟨gr, 0, none⟩) st2 k).length + 1) c6, by omega, by go_num, by omega, fun _ => by omega, by omega, HRN, Lib.hid (HA6.out.put hgs (Blk.set_ HA6.out.jb 2 _)), Lib.hid ((HLy.out.keep hs6 (fun q hq => HG6.out.block q (by omega) (fun e => by have := HOy.out.lt q e.symm; omega))).keep hgs.size (fun q hq => Below.heap_setCell _ _ _ _ (by show q ≠ w.heap.size + 1; omega))), Lib.hid ?_⟩
             rw [ptrs_snoc _ hst2]
             exact Own.far hown hgs (by omega)
            case measure => simp [intOf]; omega
         ·obtain rfl : k = recs2.length := by omega
          go_wp2_with fail
          go_meet
          exact ⟨st, sv, hst, hst0, hwr, Lib.hid (by have h1 := HRUN.out; rw [List.take_of_length_le (by rw [HSL.out, List.length_map]; exact Nat.le_refl _)] at h1; exact h1), HA, HL, HO⟩
       case rest =>
        obtain ⟨st, sv, hst, hst0, hwx, HRUN, HA6, HL6, HO6⟩ := hcut
        obtain ⟨As, cs, hsv, hcs1, hcs2, _⟩ := HO6.out.shape
        subst hsv
        obtain ⟨ls, hls⟩ : ∃ n, n = (ptrs Al st recs2.length).length := ⟨_, rfl⟩
        have hls2 : ls = recs2.length - st := by rw [hls]; exact ptrs_len _ _ _
        rw [← hls] at HA6 HO6 hcs1
        have HLS := Lib.hid hls
        have hsub : (recs2.length : Int) - (ls : Int) = (st : Int) := by omega
        have hwst : IntKind.i64.wrap (st : Int) = (st : Int) := IntWalk.i64_in _ (by omega)
        have hstc : st ≤ cl := by omega
        have hstc2 : (st : Int) ≤ (cl : Int) := by omega
        have j2 : wc.cell? ⟨w.heap.size + 1, 2, none⟩ = some (.slice As ls cs) := HA6.out.jb.cell 2
        have hBD : w.heap.size < nE ∧ w3.heap.size ≤ nE := by omega
        have HLS2 := Lib.hid hls2
        clear hls hls2 HA5 HL5
        go_upto_block 2 with fail
        go_cut [10] from 134 to 145 (fun dv wx => ∃ (dv1 : Value) (vs : List Value), dv = dv1 ∧ nE ≤ wx.heap.size ∧ Hid (OpS w base g m es w.heap.size (w.heap.size + 1) d2 mt mv (.slice As ls cs) 0 wx es2) ∧ Hid (LstAt wx (fun k => lo ≤ k ∧ k < w3.heap.size) Al recs2) ∧ Hid (Own wx nE 108 (.slice As ls cs) (ptrs Al st recs2.length)) ∧ Hid (ActsR wx w.heap.size lo w3.heap.size nE (w.heap.size + 1) g dv1 vs ((recs2.take st).map fun q => JAct.rm (jName q.s.k))))
        case first =>
         go_wp2_with fail
         go_loopw [134, 10, 12] (fun i dv _ wr => ∃ (k : Nat) (vs : List Value), k ≤ st ∧ i = .int .i64 k ∧ nE ≤ wr.heap.size ∧ Hid (OpS w base g m es w.heap.size (w.heap.size + 1) d2 mt mv (.slice As ls cs) 0 wr es2) ∧ Hid (LstAt wr (fun k => lo ≤ k ∧ k < w3.heap.size) Al recs2) ∧ Hid (Own wr nE 108 (.slice As ls cs) (ptrs Al st recs2.length)) ∧ Hid (ActsR wr w.heap.size lo w3.heap.size nE (w.heap.size + 1) g dv vs ((recs2.take k).map fun q => JAct.rm (jName q.s.k)))) (fun i _ _ _ => st - (intOf i).toNat)
         case atStart => exact ⟨0, [], by omega, rfl, hwx, HA6, HL6, HO6, Lib.hid ActsR.nil⟩
         case round =>
          obtain ⟨k, vs, hk, rfl, hwr, HA, HL, HO, HD⟩ := hrel
          by_cases hlt : k < st
          ·have hkn : k < recs2.length := by omega
           obtain ⟨gr, rfl, hFg, hgl, hcells⟩ := HL.out.addr (by omega)
           obtain ⟨q, hq⟩ : ∃ q, q = recs2[k] := ⟨_, rfl⟩
           have hcl := (hcells k hkn).2
           rw [← hq] at hcl
           have c0 : wr.cell? ⟨gr, k * 6, none⟩ = some (.int .i64 q.s.k) := hcl 0 _ rfl
           have c1 : wr.cell? ⟨gr, k * 6 + 1, none⟩ = some (.int .i64 q.s.first) := hcl 1 _ rfl
           have c2 : wr.cell? ⟨gr, k * 6 + 2, none⟩ = some (.int .i64 q.s.term) := hcl 2 _ rfl
           have c3 : wr.cell? ⟨gr, k * 6 + 3, none⟩ = some (.slice q.al q.rs.length q.cl) := hcl 3 _ rfl
           have c4 : wr.cell? ⟨gr, k * 6 + 4, none⟩ = some (.slice q.ae q.s.ends.length q.ce) := hcl 4 _ rfl
           have c5 : wr.cell? ⟨gr, k * 6 + 5, none⟩ = some (.bool q.tn) := hcl 5 _ rfl
           have hqk := (HALL.out q (by rw [hq]; exact List.getElem_mem hkn)).k
           have htk : recs2.take (k + 1) = recs2.take k ++ [q] := by rw [List.take_add_one, List.getElem?_eq_getElem hkn, hq]; rfl
           have HTK := Lib.hid htk
           obtain ⟨wb, hwb⟩ : ∃ W, W = wr.alloc (.cells #[.int .i64 q.s.k, .int .i64 q.s.first, .int .i64 q.s.term, .slice q.al q.rs.length q.cl, .slice q.ae q.s.ends.length q.ce, .bool q.tn] 106) := ⟨_, rfl⟩
           have hbb : Below wr.heap.size wr wb := by rw [hwb]; exact (Below.refl _ wr).alloc (Nat.le_refl _) _
           have hbk : Blk wb wr.heap.size 106 #[.int .i64 q.s.k, .int .i64 q.s.first, .int .i64 q.s.term, .slice q.al q.rs.length q.cl, .slice q.ae q.s.ends.length q.ce, .bool q.tn] := by rw [hwb]; exact Blk.new wr _ _
           have HAb := Lib.hid (HA.out.below hbb)
           have HBB := Lib.hid hbb
           have HNA := Lib.hid (jname_any wr.heap.size 0 q.s.k (by omega) wb (hbk.cell 0) (HE.out wb (HAb.out.baseB HLOW.out hbw)).1)
           have HWB := Lib.hid hwb
           have hqn := jName_len q.s.k (by omega)
           obtain ⟨nm, hnm⟩ : ∃ n, n = jName q.s.k := ⟨_, rfl⟩
           have HNM := Lib.hid hnm
           rw [← hnm] at HNA hqn
           have hsb := hbb.size
           clear hq hcl hcells htk hwb hbb hbk hnm
           go_upto_region 26 with fail
           rw [← HWB.out]
           go_wp2_with fail
           refine HNA.out.mono ?_
           rintro e w5 ⟨rfl, hb5⟩
           have HB5 := Lib.hid (HBB.out.trans (hb5.mono hsb))
           have hs5 := HB5.out.size
           clear hb5 HNA HBB c0 c1 c2 c3 c4 c5
           go_wp2_with fail
           refine (show Calls _ _ _ w5 _ from jmk_rm (gj := w.heap.size + 1) (g := g) nm (by omega) w5).mono ?_
           rintro e w6 ⟨v6, rfl, hb6, ⟨F6, caps6, rfl⟩, hnf6, hact⟩
           have hs6 := hb6.size
           have hb56 := hb6.alloc hs6 (.cells #[.func (.func F6) #[] caps6] 98)
           have hbF : Below wr.heap.size wr (w6.alloc (.cells #[.func (.func F6) #[] caps6] 98)) := HB5.out.trans (hb56.mono hs5)
           have hsF := hbF.size
           have hb6a := (Below.refl w6.heap.size w6).alloc (Nat.le_refl _) (.cells #[.func (.func F6) #[] caps6] 98)
           have hjv := (hact (EF w.heap.size lo w3.heap.size nE w6) (fun x h1 h2 => .inr (.inr ⟨by omega, h2, hnf6 x h1 h2⟩)))
           obtain ⟨e1, e2⟩ := EF.below (bd := w.heap.size) (lo := lo) (hi := w3.heap.size) (nE := nE) hb6a ⟨by omega, by omega, by omega⟩
           have HJV := Lib.hid ((hjv.keep hb6a.size e1).mono e2)
           have HAF := Lib.hid (HA.out.below hbF)
           have HLF := Lib.hid (HL.out.keep hbF.size (fun q hq => hbF.block q (by omega)))
           have HOF := Lib.hid (Own.below HO.out hbF (Nat.le_refl _))
           have HDF := Lib.hid (HD.out.below hbF ⟨by omega, by omega, by omega⟩)
           have hrdA := rd_lit w6 98 [.func (.func F6) #[] caps6]
           have HRA := Lib.hid hrdA
           have hvl : vs.length = k := by rw [HD.out.len, List.length_map, List.length_take]; omega
           have HVL := Lib.hid hvl
           obtain ⟨Ad, cd, hdv, _, _, _⟩ := HDF.out.own.shape
           subst hdv
           have HOWN := Lib.hid HDF.out.own
           have hszF : nE ≤ (w6.alloc (.cells #[.func (.func F6) #[] caps6] 98)).heap.size := by omega
           clear hb6 hact hnf6 hb56 hbF hb6a hjv e1 e2 hrdA hvl HB5 HA HL HO HD HAb HWB
           go_wp2_with (at_builtin; go_must (refine wpList_append_any rfl (.tmp 138) (.tmp 143) 110 rfl nE 98 .nilFunc 8 Tryz.underlying110 info_fnJ rfl _ _ rfl HOWN.out (w6.heap.size + 1) (some ⟨w6.heap.size, 0, none⟩) 1 1 [.func (.func F6) #[] caps6] rfl rfl HRA.out (by simp [Value.oneCell']) (by rw [HVL.out]; unfold maxLen; omega) (by rw [HVL.out]; omega) hszF ?_; intro v8 w8 hown8 hg8 hf8; have HO8 := Lib.hid hown8; have HG8 := Lib.hid hg8; clear hown8 hg8 hf8))
           go_roundw
           case rel =>
            have hsz8 := HG8.out.size
            have hrow : ∀ r, (Value.slice Ad vs.length cd).ownBlock = some r → nE ≤ r ∧ ∃ cs fz, (w6.alloc (.cells #[.func (.func F6) #[] caps6] 98)).heap[r]? = some (.cells cs 98 fz) := fun r e => by
             obtain ⟨cs, hc⟩ := ownsRow_held HOWN.out e
             exact ⟨(HOWN.out.lt r e).1, cs, _, hc⟩
            refine ⟨k + 1, vs ++ [.func (.func F6) #[] caps6], by omega, by go_num, by omega, Lib.hid (HAF.out.grown HG8.out (fun r e => by
             have h1 := (hrow r e).1
             exact ⟨by omega, by omega, fun hf => by have := HFE.out r hf; omega, by omega⟩)), Lib.hid (HLF.out.keep hsz8 (fun q hq => HG8.out.block q (by omega) (fun e => by have := (hrow q e.symm).1; omega))), Lib.hid (Own.kept HOF.out HG8.out (jrow_type_ne HOF.out HOWN.out (by decide))), Lib.hid ?_⟩
            rw [HTK.out, List.map_append, List.map_cons, List.map_nil, ← HNM.out]
            exact HDF.out.push ⟨by omega, by omega, hszF⟩ HJV.out rfl HG8.out HO8.out
           case measure => simp [intOf]; omega
          ·obtain rfl : k = st := by omega
           go_wp2_with fail
           go_meet
           exact ⟨_, vs, rfl, hwr, HA, HL, HO, HD⟩
        case rest =>
         obtain ⟨dv7, vs7, hdv, hwy, HA7, HL7, HO7, HD7⟩ := hcut
         have hdv2 := hdv.symm
         clear hdv
         subst hdv2
         clear HA6 HL6 HO6 j2
         go_upto_if 148 with fail
         go_cut [10, 13] from 146 to 167 (fun dv _ wx => ∃ (dv1 : Value) (vs : List Value), dv = dv1 ∧ nE ≤ wx.heap.size ∧ Hid (OpS w base g m es w.heap.size (w.heap.size + 1) d2 mt mv (.slice As ls cs) 0 wx es2) ∧ Hid (LstAt wx (fun k => lo ≤ k ∧ k < w3.heap.size) Al recs2) ∧ Hid (Own wx nE 108 (.slice As ls cs) (ptrs Al st recs2.length)) ∧ Hid (ActsR wx w.heap.size lo w3.heap.size nE (w.heap.size + 1) g dv1 vs ((recs2.take st).map (fun q => JAct.rm (jName q.s.k)) ++ tailJ recs2)))
         case first =>
          rcases List.eq_nil_or_concat recs2 with h0 | ⟨r, q, h0⟩
          ·have hd8 : ActsR wc w.heap.size lo w3.heap.size nE (w.heap.size + 1) g dv7 vs7 ((recs2.take st).map (fun q => JAct.rm (jName q.s.k)) ++ tailJ recs2) := by
            rw [show tailJ recs2 = [] by rw [h0]; rfl, List.append_nil]
            exact HD7.out
           have HD8 := Lib.hid hd8
           have hn0 : ¬ (0 : Int) < (recs2.length : Int) := by rw [h0]; simp
           clear hd8 h0 HD7
           go_wp2_with fail
           go_meet
           exact ⟨_, vs7, rfl, hwy, HA7, HL7, HO7, HD8⟩
          ·rw [List.concat_eq_append] at h0
           have hrl : recs2.length = r.length + 1 := by rw [h0]; simp
           obtain ⟨gr, rfl, hFg, hgl, hcells⟩ := HL7.out.addr (by omega)
           have hgq : recs2[r.length]'(by omega) = q := by simp [h0]
           have hcl := (hcells r.length (by omega)).2
           rw [hgq] at hcl
           have htl : tailJ recs2 = (if q.tn = true then [.cut (jName q.s.k) q.s.long] else []) ++ [.sync (jName q.s.k)] := by rw [h0]; exact tailJ_snoc r q
           have HTL := Lib.hid htl
           have hqm : q ∈ recs2 := by rw [h0]; simp
           have HQOK := Lib.hid (HALL.out q hqm)
           have hqk := HQOK.out.k
           obtain ⟨n1, hn1⟩ : ∃ n, n = r.length := ⟨_, rfl⟩
           rw [← hn1] at hcl
           have HN1 := Lib.hid (show recs2.length = n1 + 1 by omega)
           have HGQ := Lib.hid (show ∃ h : n1 < recs2.length, q = recs2[n1] from ⟨by omega, by simp [hn1, h0]⟩)
           have c0 : wc.cell? ⟨gr, n1 * 6, none⟩ = some (.int .i64 q.s.k) := hcl 0 _ rfl
           have c1 : wc.cell? ⟨gr, n1 * 6 + 1, none⟩ = some (.int .i64 q.s.first) := hcl 1 _ rfl
           have c2 : wc.cell? ⟨gr, n1 * 6 + 2, none⟩ = some (.int .i64 q.s.term) := hcl 2 _ rfl
           have c3 : wc.cell? ⟨gr, n1 * 6 + 3, none⟩ = some (.slice q.al q.rs.length q.cl) := hcl 3 _ rfl
           have c4 : wc.cell? ⟨gr, n1 * 6 + 4, none⟩ = some (.slice q.ae q.s.ends.length q.ce) := hcl 4 _ rfl
           have c5 : wc.cell? ⟨gr, n1 * 6 + 5, none⟩ = some (.bool q.tn) := hcl 5 _ rfl
           have hw2 : (recs2.length : Int) - 1 = (n1 : Int) := by omega
           have hw3' : IntKind.i64.wrap (n1 : Int) = (n1 : Int) := IntWalk.i64_in _ (by omega)
           have hpos : (0 : Int) < (recs2.length : Int) := by omega
           have hnl : n1 < recs2.length := by omega
           have hnl2 : (n1 : Int) < (recs2.length : Int) := by omega
           obtain ⟨wb, hwb⟩ : ∃ W, W = wc.alloc (.cells #[.int .i64 q.s.k, .int .i64 q.s.first, .int .i64 q.s.term, .slice q.al q.rs.length q.cl, .slice q.ae q.s.ends.length q.ce, .bool q.tn] 106) := ⟨_, rfl⟩
           have hbb : Below wc.heap.size wc wb := by rw [hwb]; exact (Below.refl _ wc).alloc (Nat.le_refl _) _
           have hbk : Blk wb wc.heap.size 106 #[.int .i64 q.s.k, .int .i64 q.s.first, .int .i64 q.s.term, .slice q.al q.rs.length q.cl, .slice q.ae q.s.ends.length q.ce, .bool q.tn] := by rw [hwb]; exact Blk.new wc _ _
           have HWB := Lib.hid hwb
           have hsb : wb.heap.size = wc.heap.size + 1 := by rw [hwb]; simp
           have HAb := Lib.hid (HA7.out.below hbb)
           have HLb := Lib.hid (HL7.out.keep hbb.size (fun k hk => hbb.block k (by omega)))
           have HOb := Lib.hid (Own.below HO7.out hbb (Nat.le_refl _))
           have HDb := Lib.hid (HD7.out.below hbb ⟨by omega, by omega, by omega⟩)
           obtain ⟨bb, hbe⟩ : ∃ n, n = wc.heap.size := ⟨_, rfl⟩
           rw [← hbe] at hbk hsb
           have hbbE : nE ≤ bb := by omega
           have hsb1 : bb < wb.heap.size := by omega
           have hsb2 : nE ≤ wb.heap.size := by omega
           clear hsb
           have HBE := Lib.hid hbe
           have HBK := Lib.hid hbk
           obtain ⟨Ab, cb, hdb, _, _, _⟩ := HDb.out.own.shape
           subst hdb
           have hvl : vs7.length ≤ 1000000000 := by rw [HDb.out.len, List.length_map, List.length_take]; omega
           clear h0 hgq hcells hn1 hrl hcl htl hqm hwb hbb hbk hbe HA7 HL7 HO7 HD7
           go_upto_region 30 with fail
           rw [← HWB.out, ← HBE.out, show decide (0 < recs2.length) = true from decide_eq_true (by omega)]
           clear c0 c1 c2 c3 c4 c5 HWB HBE hw2 hw3' hpos hnl hnl2
           obtain ⟨tn, htn⟩ : ∃ t, t = q.tn := ⟨_, rfl⟩
           have b5 : wb.cell? ⟨bb, 5, none⟩ = some (.bool tn) := by rw [htn]; exact HBK.out.cell 5
           rw [← htn] at HTL
           clear htn
           go_upto_if 156 with fail
           go_cut [10] from 155 to 160 (fun dv wx => ∃ (dv1 : Value) (vs : List Value), dv = dv1 ∧ bb < wx.heap.size ∧ vs.length ≤ 1000000001 ∧ Hid (OpS w base g m es w.heap.size (w.heap.size + 1) d2 mt mv (.slice As ls cs) 0 wx es2) ∧ Hid (LstAt wx (fun k => lo ≤ k ∧ k < w3.heap.size) (some ⟨gr, 0, none⟩) recs2) ∧ Hid (Own wx nE 108 (.slice As ls cs) (ptrs (some ⟨gr, 0, none⟩) st recs2.length)) ∧ wx.cell? ⟨bb, 0, none⟩ = some (.int .i64 q.s.k) ∧ Hid (ActsR wx w.heap.size lo w3.heap.size nE (w.heap.size + 1) g dv1 vs ((recs2.take st).map (fun q => JAct.rm (jName q.s.k)) ++ if tn = true then [.cut (jName q.s.k) q.s.long] else [])))
           case first =>
            have b0 : wb.cell? ⟨bb, 0, none⟩ = some (.int .i64 q.s.k) := HBK.out.cell 0
            cases tn with
            | false =>
             have hd9 : ActsR wb w.heap.size lo w3.heap.size nE (w.heap.size + 1) g (.slice Ab vs7.length cb) vs7 ((recs2.take st).map (fun q => JAct.rm (jName q.s.k)) ++ if false = true then [.cut (jName q.s.k) q.s.long] else []) := by
              rw [if_neg (by decide), List.append_nil]
              exact HDb.out
             have HD9 := Lib.hid hd9
             have B0 := Lib.hid b0
             clear hd9 b0
             go_wp2_with fail
             go_meet
             exact ⟨_, vs7, rfl, by omega, by omega, HAb, HLb, HOb, B0.out, HD9⟩
            | true =>
             have hjv : JActV wb (EF w.heap.size lo w3.heap.size nE wb) (w.heap.size + 1) g (.func (.func 54) #[] #[.pointer (some ⟨w.heap.size, 0, none⟩), .pointer (some ⟨bb, 0, none⟩)]) (.cut (jName q.s.k) q.s.long) := by
              obtain ⟨hi, hqi⟩ := HGQ.out
              exact .inl ⟨w.heap.size, bb, q.s, rfl, .inl rfl, HAb.out.bx.cell 0, HQOK.out.segM (HLb.out.box hi hqi HBK.out (fun k hk => .inr (.inl hk)) (EF.fresh HBK.out hbbE (by decide))), rfl, rfl⟩
             have hbF := (Below.refl _ wb).alloc (Nat.le_refl _) (.cells #[.func (.func 54) #[] #[.pointer (some ⟨w.heap.size, 0, none⟩), .pointer (some ⟨bb, 0, none⟩)]] 98)
             obtain ⟨e1, e2⟩ := EF.below (bd := w.heap.size) (lo := lo) (hi := w3.heap.size) (nE := nE) hbF ⟨by omega, by omega, by omega⟩
             have HJV := Lib.hid ((hjv.keep hbF.size e1).mono e2)
             have hsF := hbF.size
             have HAF := Lib.hid (HAb.out.below hbF)
             have HLF := Lib.hid (HLb.out.keep hbF.size (fun k hk => hbF.block k (by omega)))
             have HOF := Lib.hid (Own.below HOb.out hbF (Nat.le_refl _))
             have HDF := Lib.hid (HDb.out.below hbF ⟨by omega, by omega, by omega⟩)
             have HBF := Lib.hid (HBK.out.below hbF HBK.out.lt)
             have hrdA := rd_lit wb 98 [.func (.func 54) #[] #[.pointer (some ⟨w.heap.size, 0, none⟩), .pointer (some ⟨bb, 0, none⟩)]]
             have HRA := Lib.hid hrdA
             have HVL := Lib.hid hvl
             have HOWN := Lib.hid HDF.out.own
             have hszF : nE ≤ (wb.alloc (.cells #[.func (.func 54) #[] #[.pointer (some ⟨w.heap.size, 0, none⟩), .pointer (some ⟨bb, 0, none⟩)]] 98)).heap.size := by omega
             have HQK := Lib.hid hqk
             clear hjv e1 e2 hrdA HAb HLb HOb HDb b0 hvl hbF hqk
             go_wp2_with (at_builtin; go_must (refine wpList_append_any rfl (.tmp 157) (.tmp 159) 110 rfl nE 98 .nilFunc 8 Tryz.underlying110 info_fnJ rfl _ _ rfl HOWN.out (wb.heap.size + 1) (some ⟨wb.heap.size, 0, none⟩) 1 1 [.func (.func 54) #[] #[.pointer (some ⟨w.heap.size, 0, none⟩), .pointer (some ⟨bb, 0, none⟩)]] rfl rfl HRA.out (by simp [Value.oneCell']) (by have := HVL.out; unfold maxLen; omega) (by have := HVL.out; omega) hszF ?_; intro v8 w8 hown8 hg8 hf8; have HO8 := Lib.hid hown8; have HG8 := Lib.hid hg8; clear hown8 hg8 hf8))
             go_meet
             have hsz8 := HG8.out.size
             have hrow : ∀ r, (Value.slice Ab vs7.length cb).ownBlock = some r → nE ≤ r ∧ ∃ cs fz, (wb.alloc (.cells #[.func (.func 54) #[] #[.pointer (some ⟨w.heap.size, 0, none⟩), .pointer (some ⟨bb, 0, none⟩)]] 98)).heap[r]? = some (.cells cs 98 fz) := fun r e => by
              obtain ⟨cs, hc⟩ := ownsRow_held HOWN.out e
              exact ⟨(HOWN.out.lt r e).1, cs, _, hc⟩
             have hbk9 : Blk w8 bb _ _ := HBF.out.grown HG8.out (fun e => by
              obtain ⟨_, cs, fz, h1⟩ := hrow bb e.symm
              have h2 := h1.symm.trans HBF.out
              injection h2 with h2
              injection h2 with _ h2 _
              exact absurd h2 (by decide))
             refine ⟨_, vs7 ++ [.func (.func 54) #[] #[.pointer (some ⟨w.heap.size, 0, none⟩), .pointer (some ⟨bb, 0, none⟩)]], rfl, hbk9.lt, by have := HVL.out; simp; omega, Lib.hid (HAF.out.grown HG8.out (fun r e => by
              have h1 := (hrow r e).1
              exact ⟨by omega, by omega, fun hf => by have := HFE.out r hf; omega, by omega⟩)), Lib.hid (HLF.out.keep hsz8 (fun q hq => HG8.out.block q (by omega) (fun e => by have := (hrow q e.symm).1; omega))), Lib.hid (Own.kept HOF.out HG8.out (jrow_type_ne HOF.out HOWN.out (by decide))), hbk9.cell 0, Lib.hid ?_⟩
             rw [if_pos trivial]
             exact HDF.out.push ⟨by omega, by omega, hszF⟩ HJV.out rfl HG8.out HO8.out
           case rest =>
            obtain ⟨dv9, vs9, hdv, hbb9, hvl9, HA9, HL9, HO9, b0, HD9⟩ := hcut
            have hdv2 := hdv.symm
            clear hdv
            subst hdv2
            clear HAb HLb HOb HDb HBK hvl b5
            have hqn := jName_len q.s.k (by omega)
            have HNA := Lib.hid (jname_any bb 0 q.s.k (by omega) wc b0 (HE.out wc (HA9.out.baseB HLOW.out hbw)).1)
            obtain ⟨nm, hnm⟩ : ∃ n, n = jName q.s.k := ⟨_, rfl⟩
            have HNM := Lib.hid hnm
            rw [← hnm] at HNA hqn
            have HQK := Lib.hid hqk
            clear hnm hqk b0
            go_wp2_with fail
            refine HNA.out.mono ?_
            rintro e w5 ⟨rfl, hb5⟩
            have HB5 := Lib.hid hb5
            have hs5 := hb5.size
            clear hb5 HNA
            go_wp2_with fail
            refine (show Calls _ _ _ w5 _ from jmk_sync (gj := w.heap.size + 1) (g := g) nm (by omega) w5).mono ?_
            rintro e w6 ⟨v6, rfl, hb6, ⟨F6, caps6, rfl⟩, hnf6, hact⟩
            have hs6 := hb6.size
            have hb56 := hb6.alloc hs6 (.cells #[.func (.func F6) #[] caps6] 98)
            have hbF : Below wc.heap.size wc (w6.alloc (.cells #[.func (.func F6) #[] caps6] 98)) := HB5.out.trans (hb56.mono hs5)
            have hsF := hbF.size
            have hb6a := (Below.refl w6.heap.size w6).alloc (Nat.le_refl _) (.cells #[.func (.func F6) #[] caps6] 98)
            have hjv := (hact (EF w.heap.size lo w3.heap.size nE w6) (fun x h1 h2 => .inr (.inr ⟨by omega, h2, hnf6 x h1 h2⟩)))
            obtain ⟨e1, e2⟩ := EF.below (bd := w.heap.size) (lo := lo) (hi := w3.heap.size) (nE := nE) hb6a ⟨by omega, by omega, by omega⟩
            have HJV := Lib.hid ((hjv.keep hb6a.size e1).mono e2)
            have HAF := Lib.hid (HA9.out.below hbF)
            have HLF := Lib.hid (HL9.out.keep hbF.size (fun q hq => hbF.block q (by omega)))
            have HOF := Lib.hid (Own.below HO9.out hbF (Nat.le_refl _))
            have HDF := Lib.hid (HD9.out.below hbF ⟨by omega, by omega, by omega⟩)
            have hrdA := rd_lit w6 98 [.func (.func F6) #[] caps6]
            have HRA := Lib.hid hrdA
            have HVL := Lib.hid hvl9
            obtain ⟨Ad, cd, hdv, _, _, _⟩ := HDF.out.own.shape
            subst hdv
            have HOWN := Lib.hid HDF.out.own
            have hszF : nE ≤ (w6.alloc (.cells #[.func (.func F6) #[] caps6] 98)).heap.size := by omega
            clear hb6 hact hnf6 hb56 hbF hb6a hjv e1 e2 hrdA hvl9 HB5 HA9 HL9 HO9 HD9
            go_wp2_with (at_builtin; go_must (refine wpList_append_any rfl (.tmp 161) (.tmp 166) 110 rfl nE 98 .nilFunc 8 Tryz.underlying110 info_fnJ rfl _ _ rfl HOWN.out (w6.heap.size + 1) (some ⟨w6.heap.size, 0, none⟩) 1 1 [.func (.func F6) #[] caps6] rfl rfl HRA.out (by simp [Value.oneCell']) (by have := HVL.out; unfold maxLen; omega) (by have := HVL.out; omega) hszF ?_; intro v8 w8 hown8 hg8 hf8; have HO8 := Lib.hid hown8; have HG8 := Lib.hid hg8; clear hown8 hg8 hf8))
            go_meet
            have hsz8 := HG8.out.size
            have hrow : ∀ r, (Value.slice Ad vs9.length cd).ownBlock = some r → nE ≤ r ∧ ∃ cs fz, (w6.alloc (.cells #[.func (.func F6) #[] caps6] 98)).heap[r]? = some (.cells cs 98 fz) := fun r e => by
             obtain ⟨cs, hc⟩ := ownsRow_held HOWN.out e
             exact ⟨(HOWN.out.lt r e).1, cs, _, hc⟩
            refine ⟨_, vs9 ++ [.func (.func F6) #[] caps6], rfl, by omega, Lib.hid (HAF.out.grown HG8.out (fun r e => by
             have h1 := (hrow r e).1
             exact ⟨by omega, by omega, fun hf => by have := HFE.out r hf; omega, by omega⟩)), Lib.hid (HLF.out.keep hsz8 (fun q hq => HG8.out.block q (by omega) (fun e => by have := (hrow q e.symm).1; omega))), Lib.hid (Own.kept HOF.out HG8.out (jrow_type_ne HOF.out HOWN.out (by decide))), Lib.hid ?_⟩
            rw [HTL.out, ← List.append_assoc, ← HNM.out]
            have hpu := HDF.out.push ⟨by omega, by omega, hszF⟩ HJV.out rfl HG8.out HO8.out
            rw [← HNM.out] at hpu
            exact hpu
         case rest =>
          obtain ⟨dv8, vs, hdv, hwz, HA8, HL8, HO8, HD8⟩ := hcut
          have hdv2 := hdv.symm
          clear hdv
          subst hdv2
          clear HA7 HL7 HO7 HD7
          obtain ⟨al, hal⟩ : ∃ a, a = (recs2.take st).map (fun q => JAct.rm (jName q.s.k)) ++ tailJ recs2 := ⟨_, rfl⟩
          have hall : al.length ≤ 1000000002 := by
           rw [hal, List.length_append, List.length_map, List.length_take]
           have := tail_len recs2
           omega
          have hco : costs al = 0 := by rw [hal]; exact tail_cost _ _
          rw [← hal] at HD8
          obtain ⟨Ad, cd, hdv, _, _, _⟩ := HD8.out.own.shape
          rw [HD8.out.len] at hdv
          subst hdv
          have HAC := Lib.hid (jacts_any (E := fun k => k = w.heap.size ∨ (lo ≤ k ∧ k < w3.heap.size) ∨ (nE ≤ k ∧ k < wc.heap.size)) HA8.out.disk HA8.out.jb (by omega) Ad vs al cd (RdF.of_own HD8.out.own (fun k h1 h2 => .inr (.inr ⟨h1, h2⟩))) HD8.out.len (fun k h h' => (HD8.out.acts k h h').mono (fun x hx => by
           rcases hx with hx | hx | hx
           ·exact .inl hx
           ·exact .inr (.inl hx)
           ·exact .inr (.inr ⟨hx.1, hx.2.1⟩))) (fun k hk => by
           rcases hk with rfl | hk | hk
           ·exact ⟨by omega, HA8.out.nb, by omega⟩
           ·exact ⟨by omega, HNF.out k hk, by omega⟩
           ·exact ⟨hk.2, fun hf => by have := HFE.out k hf; omega, by omega⟩) (fun w' hb' => (HE.out w' ((HA8.out.baseB HLOW.out hbw).trans hb')).1) (L := L) (by rw [DkD.eta' d2 HA8.out.fs]; exact HOK2.out) (by rw [hco]; omega) (by omega))
          rw [DkD.eta' d2 HA8.out.fs] at HAC
          obtain ⟨rc, d3, hR⟩ : ∃ rc d3, runJ al d2 = (rc, d3) := ⟨_, _, rfl⟩
          rw [hR] at HAC
          have hop := openSegs_eq recs2 (mt, mv) d2 hst (by have h1 := HRUN.out; rw [HSL.out] at h1; exact h1) (r := (rc, d3)) (by rw [← hR, hal])
          have HOPN := Lib.hid (HSEG.out.trans hop)
          dsimp only at HAC HOPN
          clear hop hR hal hco hall
          go_wp2_with fail
          refine HAC.out.mono ?_
          rintro e w9 ⟨rfl, hJT⟩
          obtain ⟨es3, hO9, hg9, hf9⟩ := HA8.out.acts hJT
          have HO9 := Lib.hid hO9
          have HG9 := Lib.hid hg9
          have HF9 := Lib.hid hf9
          have hs9 := hf9.size
          clear hJT hO9 hg9 hf9 HAC HD8
          by_cases hz : rc = 0
          ·subst hz
           have HOP2 := Lib.hid (show openJ d0 = (0, some ⟨mt, mv, (recs2.map FndR.s).drop st, 0⟩, d3) by rw [HOPN.out]; rfl)
           clear HOPN
           go_wp2_with fail
           go_ret2
           refine OpS.endSome (F1 := fun k => lo ≤ k ∧ k < w3.heap.size) (F2 := fun k => nE ≤ k ∧ k < wc.heap.size) HO9.out (HL8.out.keep hs9 (fun k hk => HF9.out.block k (by omega) (by
            rintro (h1 | h1)
            ·exact HNF.out k hk h1
            ·omega))) hst HLS2.out ⟨hcs1, hcs2⟩ ((RdF.of_own HO8.out (F := fun k => nE ≤ k ∧ k < wc.heap.size) (fun k h1 h2 => ⟨h1, h2⟩)).keep hs9 (fun k hk => HF9.out.block k hk.2 (by
            rintro (h1 | h1)
            ·have := HFE.out k h1; omega
            ·omega))) HALL.out hn2 (HMN.out mt mv rfl) (fun k hk => ?_) HOP2.out
           rcases hk with hk | hk
           ·refine ⟨by omega, by omega, by omega, fun hf => ?_⟩
            rcases HG9.out k hf with h1 | h1
            ·exact HNF.out k hk h1
            ·omega
           ·refine ⟨by omega, by omega, by omega, fun hf => ?_⟩
            rcases HG9.out k hf with h1 | h1
            ·have := HFE.out k h1; omega
            ·omega
          ·have hbn : (rc != 0) = true := bne_iff_ne.2 hz
           have HOP2 := Lib.hid (show openJ d0 = (rc, none, d3) by rw [HOPN.out, if_neg hz])
           have j4 : w9.cell? ⟨w.heap.size + 1, 4, none⟩ = some (.int .i64 rc) := HO9.out.jb.cell 4
           clear HOPN hz
           go_wp2_with fail
           go_quiet (fail)
           go_wp2_with fail
           go_ret2
           exact (HO9.out.below (below_drewN (Below.refl _ w9) _)).endNone rc HOP2.out
end Go.Proofs.YtgeofijddhflaaaGreatDoor
set_option linter.unusedVariables false
set_option linter.unusedSimpArgs false
namespace Go.Proofs.YtgeofijddhflaaaGreatDoor
open Go.RowKit Go.Maps Oct
def metaPre (re : Int) : List JAct := if re = 0 then [.rm metaNew] else []
def metaActs (re : Int) (p : List UInt8) : List JAct := metaPre re ++ [.app metaNew p, .sync metaNew, .ren]
theorem setMetaJ_go {j : JnP} {d : DkD} {t v : Int} (hb : j.bad = 0) (h : ¬ (t < 0 ∨ v < 0)) : setMetaJ j d t v = if d.free + (d.read metaNew).1.length < (jMeta t v).length then (52, j, d) else
  ((runJ (metaActs (d.read metaNew).2 (jMeta t v)) d).1, if (runJ (metaActs (d.read metaNew).2 (jMeta t v)) d).1 = 0 then ⟨t, v, j.segs, 0⟩ else { j with bad := (runJ (metaActs (d.read metaNew).2 (jMeta t v)) d).1 }, (runJ (metaActs (d.read metaNew).2 (jMeta t v)) d).2) := by
 unfold setMetaJ
 rw [if_neg (by rw [hb]; simp), if_neg h]
 rfl
set_option maxHeartbeats 4000000 in
set_option maxRecDepth 100000 in
theorem jsetmeta_any {w : World} {base g m gj : Nat} {F : Nat → Prop} {d : DkD} {j : JnP} {es : List (Nm × FE)} (h : JnK w base g m gj F d j es) (hbw : base ≤ w.heap.size) {L : Nat} (hok : JDk L d) (hL : L ≤ 100000000000) (hE : ∀ w', Below base w w' → Tab w')
  (t v : Int) (ht : -9223372036854775808 ≤ t ∧ t ≤ 9223372036854775807) (hv : -9223372036854775808 ≤ v ∧ v ≤ 9223372036854775807) :
  Calls Tryz.prog 16 #[.pointer (some ⟨gj, 0, none⟩), .int .i64 t, .int .i64 v] w fun e w' => JnKTo w base g m gj es F (setMetaJ j d t v) e w' := by
 obtain ⟨sv, hJB, hturn⟩ := h.jn.turn
 have HTURN := Lib.hid hturn
 have hgj := hJB.lt
 obtain ⟨jb, hjb⟩ : ∃ x, x = j.bad := ⟨_, rfl⟩
 rw [← hjb] at hJB
 have HJB := Lib.hid hjb
 obtain ⟨w0, hw0⟩ : ∃ W, W = w.alloc (.cells #[.pointer (some ⟨gj, 0, none⟩)] 30) := ⟨_, rfl⟩
 have hB0 : Below w.heap.size w w0 := by rw [hw0]; exact (Below.refl _ w).alloc (Nat.le_refl _) _
 have hX0 : Blk w0 w.heap.size 30 #[.pointer (some ⟨gj, 0, none⟩)] := by rw [hw0]; exact Blk.new w _ _
 have hJ0 := hJB.below hB0 hgj
 have b0 : w0.cell? ⟨w.heap.size, 0, none⟩ = some (.pointer (some ⟨gj, 0, none⟩)) := hX0.cell 0
 have j4 : w0.cell? ⟨gj, 4, none⟩ = some (.int .i64 jb) := hJ0.cell 4
 have HB0 := Lib.hid hB0
 have HX0 := Lib.hid hX0
 have HJ0 := Lib.hid hJ0
 have HH := Lib.hid h
 have HOK := Lib.hid hok
 have HE := Lib.hid hE
 have HW0 := Lib.hid hw0
 have HT := Lib.hid ht
 have HV := Lib.hid hv
 have hs0 := hB0.size
 have hxl := hX0.lt
 clear h hok hE hw0 hB0 hX0 hJ0 hJB hjb hturn ht hv
 go_enter Tryz.func16, Tryz.ntmps16
 go_upto_region 1 with fail
 rw [← HW0.out]
 by_cases hb : jb = 0
 ·subst hb
  by_cases htv : t < 0 ∨ v < 0
  ·have HR := Lib.hid (show setMetaJ j d t v = (1, j, d) by unfold setMetaJ; rw [if_neg (by rw [← HJB.out]; simp), if_pos htv])
   by_cases h1 : t < 0
   ·clear htv
    go_wp2_with fail
    go_ret
    exact HH.out.same HB0.out HR.out
   ·have h2 : v < 0 := htv.resolve_left h1
    clear htv
    go_wp2_with fail
    go_ret
    exact HH.out.same HB0.out HR.out
  ·have h1 : ¬ t < 0 := fun h => htv (.inl h)
   have h2 : ¬ v < 0 := fun h => htv (.inr h)
   have HSM := Lib.hid (setMetaJ_go (d := d) HJB.out.symm htv)
   clear htv
   have hbI : Below w0.heap.size w0 (w0.alloc (.cells #[.int .i64 t, .int .i64 v] 3)) := (Below.refl _ w0).alloc (Nat.le_refl _) _
   have hzr : ∀ n ∈ [t, v], -9223372036854775808 ≤ n ∧ n ≤ 9223372036854775807 := by
    intro n hn
    rcases List.mem_cons.1 hn with rfl | hn
    ·exact HT.out
    ·obtain rfl := List.mem_singleton.1 hn
     exact HV.out
   have HN := Lib.hid (jnums_any (some ⟨w0.heap.size, 0, none⟩) [t, v] 2 (w0.alloc (.cells #[.int .i64 t, .int .i64 v] 3)) ((rd_lit w0 3 [.int .i64 t, .int .i64 v]).more (by simp)) hzr (by simp))
   have hsI := hbI.size
   have HCI := Lib.hid hbI
   have hnl : (numsS [t, v]).length ≤ 20 := numsS_len (z := [t, v]) hzr
   have HNL := Lib.hid hnl
   clear hbI hzr hnl
   go_wp2_with fail
   refine HN.out.mono ?_
   rintro e w2 ⟨v2, rfl, hv2, hb2⟩
   obtain ⟨A2, c2, rfl, k1, k2, k3⟩ := bs_shape hv2
   have hs2 := hb2.size
   have HCL := Lib.hid (jclosed_one A2 (numsS [t, v]) c2 w2 k3 (by have := HNL.out; omega))
   have HC2 := Lib.hid (HCI.out.trans (hb2.mono hsI))
   clear hv2 hb2 k3 HN HCI
   go_wp2_with fail
   refine HCL.out.mono ?_
   rintro e w3 ⟨v3, rfl, hg3, hb3⟩
   change Got w3 w2.heap.size v3 (jMeta t v) at hg3
   obtain ⟨p, hp⟩ : ∃ p, p = jMeta t v := ⟨_, rfl⟩
   rw [← hp] at hg3 HSM
   have hpl : p.length ≤ 1048600 := by rw [hp]; exact closeS_lenJ (by have := HNL.out; omega)
   obtain ⟨A3, c3, rfl, p1, p2, _⟩ := hg3.shape
   have hs3 := hb3.size
   have HC3 := Lib.hid (HC2.out.trans (hb3.mono (by omega)))
   have HP3 := Lib.hid (hg3.mono (by omega : w.heap.size ≤ w2.heap.size))
   have HH3 := Lib.hid (HH.out.below (HB0.out.trans (HC3.out.mono hs0)))
   have HFL := Lib.hid (jfe_len (pw := d.pw) (room := d.room) (es := es) (L := L) (by rw [DkD.eta' d HH.out.fs]; exact HOK.out))
   have hrd := dread_any HH3.out.disk ⟨#[109, 101, 116, 97, 46, 110, 101, 119]⟩ (by show 8 ≤ _; omega) (fun q hq => by have := HFL.out.1 q hq; omega)
   rw [DkD.eta' d HH.out.fs] at hrd
   change Calls _ _ _ w3 (fun e w' => ∃ v, e = .returned (.tuple #[v, .int .i64 (d.read metaNew).2]) ∧ Bs w' w3.heap.size v (d.read metaNew).1 ∧ Below w3.heap.size w3 w') at hrd
   have hol : ((d.read metaNew).1.length : Int) ≤ sizes d.fs := read_len
   obtain ⟨rd, re, hrr⟩ : ∃ rd re, d.read metaNew = (rd, re) := ⟨_, _, rfl⟩
   rw [hrr] at hrd HSM hol
   dsimp only at hrd HSM hol
   have HRD := Lib.hid hrd
   have HOL := Lib.hid hol
   have b3 : w3.cell? ⟨w.heap.size, 0, none⟩ = some (.pointer (some ⟨gj, 0, none⟩)) := (HX0.out.below HC3.out hxl).cell 0
   have j3 : w3.cell? ⟨gj, 3, none⟩ = some (.pointer (some ⟨g, 0, none⟩)) := (HJ0.out.below HC3.out (by omega)).cell 3
   clear hp hg3 hb3 hrd hol hrr HCL HC2 b0 j4 HNL
   go_wp2_with fail
   refine HRD.out.mono ?_
   rintro e w4 ⟨v4, rfl, hv4, hb4⟩
   obtain ⟨A4, c4, rfl, q1, q2, _⟩ := bs_shape hv4
   have hs4 := hb4.size
   have HC4 := Lib.hid (HC3.out.trans (hb4.mono (by omega)))
   have HP4 := Lib.hid (HP3.out.below hb4 (Nat.le_refl _))
   have hs04 := HC4.out.size
   clear hv4 hb4 HRD HC3 HP3 HH3 b3 j3
   go_upto_if 43 with fail
   go_cut [8] from 42 to 48 (fun dv wx => ∃ (dv1 : Value) (vs : List Value), dv = dv1 ∧ w0.heap.size ≤ wx.heap.size ∧ vs.length ≤ 1 ∧ Hid (Below w0.heap.size w0 wx) ∧ Hid (Got wx w.heap.size (.slice A3 p.length c3) p) ∧ Hid (ActsG wx (fun _ => False) w.heap.size gj g dv1 vs (metaPre re)))
   case first =>
    by_cases h0 : re = 0
    ·subst h0
     have b4 : w4.cell? ⟨w.heap.size, 0, none⟩ = some (.pointer (some ⟨gj, 0, none⟩)) := (HX0.out.below HC4.out hxl).cell 0
     go_wp2_with fail
     refine (show Calls _ _ _ w4 _ from jmk_rm (gj := gj) (g := g) metaNew (by decide) w4).mono ?_
     rintro e w6 ⟨v6, rfl, hb6, ⟨F6, caps6, rfl⟩, hnf6, hact⟩
     have hs6 := hb6.size
     have hb6a := (Below.refl w6.heap.size w6).alloc (Nat.le_refl _) (.cells #[.func (.func F6) #[] caps6] 98)
     have hjv := (hact (EG (fun _ => False) w.heap.size w6) (fun x h1 h2 => .inr ⟨by omega, h2, hnf6 x h1 h2⟩))
     obtain ⟨e1, e2⟩ := EG.below (G := fun _ => False) (nE := w.heap.size) hb6a ⟨fun _ h => h.elim, by omega⟩
     have HJV := Lib.hid ((hjv.keep hb6a.size e1).mono e2)
     have hsA := hb6a.size
     have HCA := Lib.hid (HC4.out.trans ((hb6.alloc hs6 (.cells #[.func (.func F6) #[] caps6] 98)).mono (by omega)))
     have HPA := Lib.hid (HP4.out.below (hb6.alloc hs6 (.cells #[.func (.func F6) #[] caps6] 98)) (Nat.le_refl _))
     have hrdA := rd_lit w6 98 [.func (.func F6) #[] caps6]
     have HRA := Lib.hid hrdA
     clear hb6 hact hnf6 hb6a hjv e1 e2 hrdA b4 HC4 HP4
     go_wp2_with (at_builtin; go_must (refine wpList_append_any rfl (.tmp 44) (.tmp 47) 110 rfl w.heap.size 98 .nilFunc 8 Tryz.underlying110 info_fnJ rfl _ [] rfl (Own.nil _ _ _) (w6.heap.size + 1) (some ⟨w6.heap.size, 0, none⟩) 1 1 [.func (.func F6) #[] caps6] rfl rfl HRA.out (by simp [Value.oneCell']) (by unfold maxLen; simp) (by simp) (by omega) ?_; intro v8 w8 hown8 hg8 hf8; have HO8 := Lib.hid hown8; have HG8 := Lib.hid hg8; clear hown8 hg8 hf8))
     go_meet
     have hb8 : Below (w6.alloc (.cells #[.func (.func F6) #[] caps6] 98)).heap.size (w6.alloc (.cells #[.func (.func F6) #[] caps6] 98)) w8 := (Below.refl _ _).grown HG8.out (Nat.le_refl _) (fun k hk => by cases hk)
     refine ⟨_, [.func (.func F6) #[] caps6], rfl, by have := HG8.out.size; omega, by simp, Lib.hid (HCA.out.trans (hb8.mono (by omega))), Lib.hid (HPA.out.below hb8 (Nat.le_refl _)), Lib.hid ?_⟩
     exact ActsG.push (al := []) ActsG.nil ⟨fun _ h => h.elim, by omega⟩ HJV.out rfl HG8.out HO8.out
    ·have h0b : (re == 0) = false := by simpa using h0
     have hmp : metaPre re = [] := by unfold metaPre; rw [if_neg h0]
     have HMP := Lib.hid hmp
     clear h0 hmp
     go_wp2_with fail
     go_meet
     exact ⟨_, [], rfl, hs04, by simp, HC4, HP4, Lib.hid (by rw [HMP.out]; exact ActsG.nil)⟩
   case rest =>
    obtain ⟨dv7, vs7, hdv, hs07, hvl7, HC7, HP7, HD7⟩ := hcut
    have hdv2 := hdv.symm
    clear hdv
    subst hdv2
    clear HC4 HP4
    have HB7 := Lib.hid (HB0.out.trans (HC7.out.mono hs0))
    have HH7 := Lib.hid (HH.out.below HB7.out)
    have hfr := free_any HH7.out.disk (by rw [HH.out.fs]; have := HOK.out.sz; omega)
    rw [HH.out.fs] at hfr
    have hnum := HH.out.disk.num
    have hsz := HOK.out.sz
    have hnn := sizes_nonneg d.fs
    have hol := HOL.out
    have hfe : DkD.free d = d.room - sizes d.fs := rfl
    rw [hfe] at HSM
    obtain ⟨fr, hfre⟩ : ∃ x, x = d.room - sizes d.fs := ⟨_, rfl⟩
    rw [← hfre] at hfr HSM
    have hfb : -4611686018427387904 ≤ fr ∧ fr + rd.length ≤ 9223372036854775807 := by omega
    have HFR := Lib.hid hfr
    have b7 : wc.cell? ⟨w.heap.size, 0, none⟩ = some (.pointer (some ⟨gj, 0, none⟩)) := (HX0.out.below HC7.out hxl).cell 0
    have j7 : wc.cell? ⟨gj, 3, none⟩ = some (.pointer (some ⟨g, 0, none⟩)) := (HJ0.out.below HC7.out (by omega)).cell 3
    clear hfr hnum hsz hnn hol hfe hfre
    have hwr : IntKind.i64.wrap (fr + rd.length) = fr + rd.length := IntWalk.i64_in _ (by omega)
    go_wp2_with fail
    refine HFR.out.mono ?_
    rintro e w8 ⟨rfl, hb8⟩
    have hs8 := hb8.size
    have HC8 := Lib.hid (HC7.out.trans (hb8.mono (by omega)))
    have HP8 := Lib.hid (HP7.out.below hb8 (Nat.le_refl _))
    have HD8 := Lib.hid (HD7.out.below hb8 ⟨fun _ h => h.elim, by omega⟩)
    have HB8 := Lib.hid (HB7.out.trans (hb8.mono (by omega)))
    clear hb8 HFR HC7 HP7 HD7 HB7 b7 j7 HH7
    by_cases hroom : fr + rd.length < (p.length : Int)
    ·have HR := Lib.hid (HSM.out.trans (if_pos hroom))
     go_wp2_with fail
     go_ret
     exact HH.out.same HB8.out HR.out
    ·have HR := Lib.hid (HSM.out.trans (if_neg hroom))
     clear HSM
     go_upto_region 12 with fail
     go_cut [8] from 60 to 68 (fun dv wx => ∃ (dv1 : Value) (vs : List Value), dv = dv1 ∧ w0.heap.size ≤ wx.heap.size ∧ Hid (Below w0.heap.size w0 wx) ∧ Hid (ActsG wx (fun _ => False) w.heap.size gj g dv1 vs (metaActs re p)))
     case first =>
      have HC9 := Lib.hid (HC8.out.drew)
      have HP9 := Lib.hid (HP8.out.below (Below.refl _ w8).drew (Nat.le_refl _))
      have HD9 := Lib.hid (HD8.out.below (Below.refl _ w8).drew ⟨fun _ h => h.elim, by omega⟩)
      have hsd : w0.heap.size ≤ w8.drew.heap.size := by show _ ≤ w8.heap.size; omega
      have HNX := Lib.hid (show ∀ k, w.heap.size ≤ k → k < w0.heap.size → ∀ cs fz, w0.heap[k]? ≠ some (.cells cs 98 fz) from fun k h1 h2 cs fz e => by
       have h3 : w0.heap.size = w.heap.size + 1 := by rw [HW0.out]; simp
       obtain rfl : k = w.heap.size := by omega
       have h4 := e.symm.trans HX0.out
       injection h4 with h4
       injection h4 with _ h4 _
       exact absurd h4 (by decide))
      have b9 : w8.drew.cell? ⟨w.heap.size, 0, none⟩ = some (.pointer (some ⟨gj, 0, none⟩)) := (HX0.out.below HC9.out hxl).cell 0
      clear HC8 HP8 HD8 HB8
      refine wp_region_held_drew (S := fun W => W.cell? ⟨w.heap.size, 0, none⟩ = some (.pointer (some ⟨gj, 0, none⟩)) ∧ True ∧ True ∧ True) (by kernel_rfl) ⟨b9, trivial, trivial, trivial⟩ (fun hHeld => ?_)
      refine held_take 0 (v := ?_) (by simp) (by kernel_rfl) (by kernel_rfl) (by kernel_rfl) (fun _ _ _ h => h) (Or.inl ⟨by rfl, ?_⟩) hHeld ?_
      case refine_2 => (intro w hSw; (try dsimp only at hSw); (try (obtain ⟨s0, s1, s2, s3⟩ := hSw)); simp only [List.getElem_cons_zero]; go_simp <;> with_reducible rfl)
      simp only [List.getElem_cons_zero, Act.put, List.setIfInBounds_toArray, List.set_cons_zero, List.set_cons_succ]
      refine held_take 1 (v := ?_) (by simp) (by kernel_rfl) (by kernel_rfl) (by kernel_rfl) (fun _ _ _ h => h) (Or.inl ⟨by rfl, ?_⟩) hHeld ?_
      case refine_2 => (intro w hSw; (try dsimp only at hSw); (try (obtain ⟨s0, s1, s2, s3⟩ := hSw)); simp only [List.getElem_cons_zero, List.getElem_cons_succ]; go_simp <;> with_reducible rfl)
      simp only [List.getElem_cons_zero, List.getElem_cons_succ, Act.put, List.setIfInBounds_toArray, List.set_cons_zero, List.set_cons_succ]
      refine held_take 2 (v := ?_) (by simp) (by kernel_rfl) (by kernel_rfl) (by kernel_rfl) (fun _ _ _ h => h) (Or.inl ⟨by rfl, ?_⟩) hHeld ?_
      case refine_2 => (intro w hSw; (try dsimp only at hSw); (try (obtain ⟨s0, s1, s2, s3⟩ := hSw)); simp only [List.getElem_cons_zero, List.getElem_cons_succ]; go_simp <;> with_reducible rfl)
      simp only [List.getElem_cons_zero, List.getElem_cons_succ, Act.put, List.setIfInBounds_toArray, List.set_cons_zero, List.set_cons_succ]
      refine held_take 4 (v := ?_) (by simp) (by kernel_rfl) (by kernel_rfl) (by kernel_rfl) (fun _ _ _ h => h) (Or.inl ⟨by rfl, ?_⟩) hHeld ?_
      case refine_2 => (intro w hSw; (try dsimp only at hSw); (try (obtain ⟨s0, s1, s2, s3⟩ := hSw)); simp only [List.getElem_cons_zero, List.getElem_cons_succ]; go_simp <;> with_reducible rfl)
      simp only [List.getElem_cons_zero, List.getElem_cons_succ, Act.put, List.setIfInBounds_toArray, List.set_cons_zero, List.set_cons_succ]
      refine held_take 6 (v := ?_) (by simp) (by kernel_rfl) (by kernel_rfl) (by kernel_rfl) (fun _ _ _ h => h) (Or.inl ⟨by rfl, ?_⟩) hHeld ?_
      case refine_2 => (intro w hSw; (try dsimp only at hSw); (try (obtain ⟨s0, s1, s2, s3⟩ := hSw)); simp only [List.getElem_cons_zero, List.getElem_cons_succ]; go_simp <;> with_reducible rfl)
      simp only [List.getElem_cons_zero, List.getElem_cons_succ, Act.put, List.setIfInBounds_toArray, List.set_cons_zero, List.set_cons_succ]
      refine held_sole 3 (by simp) (by kernel_rfl) (fun K hK => ?_)
      simp only [List.getElem_cons_zero, List.getElem_cons_succ]
      go_simp
      refine (show Calls _ _ _ w8.drew _ from jmk_put (gj := gj) (g := g) metaNew (by decide) p A3 c3 p1 (by omega) w8.drew).mono ?_
      rintro e wa ⟨vP, rfl, hba, ⟨FP, capsP, rfl⟩, hnfP, hactP⟩
      have hsa := hba.size
      have HCa := Lib.hid (HC9.out.trans (hba.mono (by omega)))
      have HPX := Lib.hid (HP9.out.below hba (Nat.le_refl _))
      have HDa := Lib.hid (HD9.out.below hba ⟨fun _ h => h.elim, by omega⟩)
      change _ ≤ _ at hsa
      have hjP := hactP (EG (fun _ => False) w.heap.size wa) (fun x h1 h2 => .inr ⟨by omega, h2, hnfP x h1 h2⟩) (HPX.out.rdG (Nat.le_refl _))
      have HJP := Lib.hid hjP
      have ba : wa.cell? ⟨w.heap.size, 0, none⟩ = some (.pointer (some ⟨gj, 0, none⟩)) := (HX0.out.below HCa.out hxl).cell 0
      clear hactP hnfP hjP hba
      go_wp2_with fail
      refine hK.out _ _ ⟨ba, trivial, trivial, trivial⟩ (fun hHeld => ?_)
      clear hK K
      try simp only [Act.put, List.setIfInBounds_toArray, List.set_cons_zero, List.set_cons_succ]
      refine held_sole 5 (by simp) (by kernel_rfl) (fun K hK => ?_)
      simp only [List.getElem_cons_zero, List.getElem_cons_succ]
      go_simp
      refine (show Calls _ _ _ wa _ from jmk_sync (gj := gj) (g := g) metaNew (by decide) wa).mono ?_
      rintro e wb ⟨vS, rfl, hbb, ⟨FS, capsS, rfl⟩, hnfS, hactS⟩
      have hsb := hbb.size
      have HCb := Lib.hid (HCa.out.trans (hbb.mono (by omega)))
      have HPZ := Lib.hid (HPX.out.below hbb (Nat.le_refl _))
      clear HPX
      have HPX := HPZ
      clear HPZ
      have HDb := Lib.hid (HDa.out.below hbb ⟨fun _ h => h.elim, by omega⟩)
      obtain ⟨e1, e2⟩ := EG.below (G := fun _ => False) (nE := w.heap.size) hbb ⟨fun _ h => h.elim, by omega⟩
      have HKP := Lib.hid ((HJP.out.keep hbb.size e1).mono e2)
      have hjS := hactS (EG (fun _ => False) w.heap.size wb) (fun x h1 h2 => .inr ⟨by omega, h2, hnfS x h1 h2⟩)
      have HKS := Lib.hid hjS
      have bb : wb.cell? ⟨w.heap.size, 0, none⟩ = some (.pointer (some ⟨gj, 0, none⟩)) := (HX0.out.below HCb.out hxl).cell 0
      clear hactS hnfS hjS hbb e1 e2 HJP ba HDa HCa
      go_wp2_with fail
      refine hK.out _ _ ⟨bb, trivial, trivial, trivial⟩ (fun hHeld => ?_)
      clear hK K
      try simp only [Act.put, List.setIfInBounds_toArray, List.set_cons_zero, List.set_cons_succ]
      refine held_sole 7 (by simp) (by kernel_rfl) (fun K hK => ?_)
      simp only [List.getElem_cons_zero, List.getElem_cons_succ]
      go_simp
      have hrdA := rd_lit wb 98 [Value.func (.func FP) #[] capsP, .func (.func FS) #[] capsS, .func (.func 70) #[] #[.pointer (some ⟨w.heap.size, 0, none⟩)]]
      have hbA : Below wb.heap.size wb (wb.alloc (.cells #[.func (.func FP) #[] capsP, .func (.func FS) #[] capsS, .func (.func 70) #[] #[.pointer (some ⟨w.heap.size, 0, none⟩)]] 98)) := (Below.refl _ wb).alloc (Nat.le_refl _) _
      have hsA := hbA.size
      have HDA := Lib.hid (HDb.out.below hbA ⟨fun _ h => h.elim, by omega⟩)
      have HCA := Lib.hid (HCb.out.trans (hbA.mono (by omega)))
      have hjr : JActV wb (EG (fun _ => False) w.heap.size wb) gj g (.func (.func 70) #[] #[.pointer (some ⟨w.heap.size, 0, none⟩)]) .ren := ⟨w.heap.size, rfl, EG.fresh (HX0.out.below HCb.out hxl) (Nat.le_refl _) (by decide), bb⟩
      obtain ⟨e1, e2⟩ := EG.below (G := fun _ => False) (nE := w.heap.size) hbA ⟨fun _ h => h.elim, by omega⟩
      have hall : ∀ i (h : i < [Value.func (.func FP) #[] capsP, .func (.func FS) #[] capsS, .func (.func 70) #[] #[.pointer (some ⟨w.heap.size, 0, none⟩)]].length) (h' : i < [JAct.app metaNew p, .sync metaNew, .ren].length), JActV (wb.alloc (.cells #[.func (.func FP) #[] capsP, .func (.func FS) #[] capsS, .func (.func 70) #[] #[.pointer (some ⟨w.heap.size, 0, none⟩)]] 98)) (EG (fun _ => False) w.heap.size (wb.alloc (.cells #[.func (.func FP) #[] capsP, .func (.func FS) #[] capsS, .func (.func 70) #[] #[.pointer (some ⟨w.heap.size, 0, none⟩)]] 98))) gj g [Value.func (.func FP) #[] capsP, .func (.func FS) #[] capsS, .func (.func 70) #[] #[.pointer (some ⟨w.heap.size, 0, none⟩)]][i] [JAct.app metaNew p, .sync metaNew, .ren][i] := fun i h h' => by
       have hi : i < 3 := h
       rcases (by omega : i = 0 ∨ i = 1 ∨ i = 2) with rfl | rfl | rfl
       ·exact (HKP.out.keep hbA.size e1).mono e2
       ·exact (HKS.out.keep hbA.size e1).mono e2
       ·exact (hjr.keep hbA.size e1).mono e2
      have HALL := Lib.hid hall
      have HRA := Lib.hid hrdA
      have bA : (wb.alloc (.cells #[.func (.func FP) #[] capsP, .func (.func FS) #[] capsS, .func (.func 70) #[] #[.pointer (some ⟨w.heap.size, 0, none⟩)]] 98)).cell? ⟨w.heap.size, 0, none⟩ = some (.pointer (some ⟨gj, 0, none⟩)) := (HX0.out.below HCA.out hxl).cell 0
      have hwA : w.heap.size ≤ (wb.alloc (.cells #[.func (.func FP) #[] capsP, .func (.func FS) #[] capsS, .func (.func 70) #[] #[.pointer (some ⟨w.heap.size, 0, none⟩)]] 98)).heap.size := by omega
      clear hrdA hbA hjr e1 e2 hall HKP HKS HDb HCb bb
      refine hK.out _ _ ⟨bA, trivial, trivial, trivial⟩ (fun hHeld => ?_)
      clear hK K
      try simp only [Act.put, List.setIfInBounds_toArray, List.set_cons_zero, List.set_cons_succ]
      refine held_sole 8 (by simp) (by kernel_rfl) (fun K hK => ?_)
      simp only [List.getElem_cons_zero, List.getElem_cons_succ]
      rw [if_pos (by rfl)]
      refine wp_append_any (.tmp 60) (.tmp 67) 110 rfl w.heap.size 98 .nilFunc 8 Tryz.underlying110 info_fnJ rfl _ vs7 rfl HDA.out.own (wb.heap.size + 1) (some ⟨wb.heap.size, 0, none⟩) 3 3 [Value.func (.func FP) #[] capsP, .func (.func FS) #[] capsS, .func (.func 70) #[] #[.pointer (some ⟨w.heap.size, 0, none⟩)]] rfl rfl HRA.out (by simp [Value.oneCell']) (by unfold maxLen; omega) (by omega) hwA ?_
      intro vq wq hownq hgq hfq
      have hsq := hgq.size
      have HPU := Lib.hid (ActsG.pushes (bl := [.app metaNew p, .sync metaNew, .ren]) HDA.out ⟨fun _ h => h.elim, hwA⟩ rfl HALL.out (by simp [Value.oneCell']) hgq hownq)
      have hbq : Below w0.heap.size (wb.alloc (.cells #[.func (.func FP) #[] capsP, .func (.func FS) #[] capsS, .func (.func 70) #[] #[.pointer (some ⟨w.heap.size, 0, none⟩)]] 98)) wq := (Below.refl _ _).grown hgq (by omega) (fun k hk => by have h1 := HDA.out.own.lt k hk; obtain ⟨cs, hc⟩ := ownsRow_held HDA.out.own hk; rcases Nat.lt_or_ge k w0.heap.size with h2 | h2; exact absurd (HCA.out.block k h2 ▸ hc) (HNX.out k h1.1 h2 cs _); exact h2)
      have HCq := Lib.hid (HCA.out.trans hbq)
      have bq : wq.cell? ⟨w.heap.size, 0, none⟩ = some (.pointer (some ⟨gj, 0, none⟩)) := (HX0.out.below HCq.out hxl).cell 0
      clear hownq hgq hfq hbq bA HDA HALL HRA HCA
      refine hK.out _ _ ⟨bq, trivial, trivial, trivial⟩ (fun hHeld => ?_)
      clear hK K
      try simp only [Act.put, List.setIfInBounds_toArray, List.set_cons_zero, List.set_cons_succ]
      refine held_take 9 (v := ?_) (by simp) (by kernel_rfl) (by kernel_rfl) (by kernel_rfl) (fun _ _ _ h => h) (Or.inl ⟨by rfl, ?_⟩) hHeld ?_
      case refine_2 => (intro w hSw; (try dsimp only at hSw); (try (obtain ⟨s0, s1, s2, s3⟩ := hSw)); simp only [List.getElem_cons_zero, List.getElem_cons_succ]; go_simp <;> with_reducible rfl)
      simp only [List.getElem_cons_zero, List.getElem_cons_succ, Act.put, List.setIfInBounds_toArray, List.set_cons_zero, List.set_cons_succ]
      refine wpAnyH_done (by kernel_rfl) ?_ _
      clear bq hHeld
      go_wp2_with fail
      go_meet
      exact ⟨_, _, rfl, by omega, HCq, HPU⟩
     case rest =>
      obtain ⟨dv8, vs8, hdv, hs9, HC9, HD9⟩ := hcut
      have hdv2 := hdv.symm
      clear hdv
      subst hdv2
      clear HC8 HP8 HD8 HB8
      obtain ⟨al, hal⟩ : ∃ a, a = metaActs re p := ⟨_, rfl⟩
      have hall : al.length ≤ 4 := by rw [hal]; unfold metaActs metaPre; split <;> simp
      have hco : costs al ≤ 1048601 := by rw [hal]; unfold metaActs metaPre; split <;> simp [costs, JAct.cost] <;> omega
      rw [← hal] at HD9 HR
      obtain ⟨Ad, cd, hdv, _, _, _⟩ := HD9.out.own.shape
      rw [HD9.out.len] at hdv
      subst hdv
      have HB9 := Lib.hid (HB0.out.trans (HC9.out.mono hs0))
      have HH9 := Lib.hid (HH.out.below HB9.out)
      have HAC := Lib.hid (jacts_any (E := fun k => w.heap.size ≤ k ∧ k < wc.heap.size) HH9.out.disk (HJ0.out.below HC9.out (by omega)) HH.out.lo Ad vs8 al cd (RdF.of_own HD9.out.own (fun k h1 h2 => ⟨h1, h2⟩)) HD9.out.len (fun k h h' => (HD9.out.acts k h h').mono (fun x hx => by
       rcases hx with hx | hx
       ·exact hx.elim
       ·exact ⟨hx.1, hx.2.1⟩)) (fun k hk => ⟨hk.2, fun hf => by have := (HH.out.disk.lt k hf).2; omega, by omega⟩) (fun w' hb' => HE.out w' ((HB9.out.mono hbw).trans hb')) (L := L) (by rw [DkD.eta' d HH.out.fs]; exact HOK.out) (by omega) (by omega))
      rw [DkD.eta' d HH.out.fs] at HAC
      obtain ⟨rc, d3, hR⟩ : ∃ rc d3, runJ al d = (rc, d3) := ⟨_, _, rfl⟩
      rw [hR] at HAC HR
      dsimp only at HAC HR
      have b9 : wc.cell? ⟨w.heap.size, 0, none⟩ = some (.pointer (some ⟨gj, 0, none⟩)) := (HX0.out.below HC9.out hxl).cell 0
      clear hR hal hco hall
      go_wp2_with fail
      refine HAC.out.mono ?_
      rintro e w9 ⟨rfl, es3, hD10, hS10, hJ10, hF10, hg10⟩
      have hs10 := hF10.size
      have hX10 : Blk w9 w.heap.size 30 #[.pointer (some ⟨gj, 0, none⟩)] := hF10.blk_ (HX0.out.below HC9.out hxl) (by
       rintro (h1 | h1)
       ·have := (HH.out.disk.lt _ h1).2; omega
       ·omega)
      have hFR : Fr (fun k => DFoot g m es k ∨ k = gj) w w9 := (Fr.of_below _ HB9.out).trans hF10 (fun j hj => .inl hj)
      have b10 : w9.cell? ⟨w.heap.size, 0, none⟩ = some (.pointer (some ⟨gj, 0, none⟩)) := hX10.cell 0
      have j0 : w9.cell? ⟨gj, 0, none⟩ = some (.int .i64 j.term) := hJ10.cell 0
      have j1 : w9.cell? ⟨gj, 1, none⟩ = some (.int .i64 j.vote) := hJ10.cell 1
      have j4 : w9.cell? ⟨gj, 4, none⟩ = some (.int .i64 rc) := hJ10.cell 4
      have z0 : w9.frozen? ⟨gj, 0, none⟩ = false := hJ10.frozen _
      have z1 : w9.frozen? ⟨gj, 1, none⟩ = false := hJ10.frozen _
      have HX10 := Lib.hid hX10
      have HFR := Lib.hid hFR
      have HD10 := Lib.hid hD10
      have HS10 := Lib.hid hS10
      have HJ10 := Lib.hid hJ10
      have HG10 := Lib.hid (show ∀ k, DFoot g m es3 k → DFoot g m es k ∨ w.heap.size ≤ k from fun k hk => (hg10 k hk).imp id (fun h1 => by omega))
      have HAP := Lib.hid (show ∀ k, F k → w9.heap[k]? = w.heap[k]? ∧ k < w.heap.size ∧ k ≠ gj ∧ ¬ DFoot g m es3 k from fun k hk => by
       have h1 := HH.out.apart k hk
       refine ⟨hFR.block k h1.2.1 (by rintro (h2 | h2); exact h1.2.2.2 h2; exact h1.2.2.1 h2), h1.2.1, h1.2.2.1, fun hf => ?_⟩
       rcases HG10.out k hf with h2 | h2
       ·exact h1.2.2.2 h2
       ·omega)
      clear hD10 hS10 hJ10 hF10 hg10 hX10 hFR HAC HD9 b9
      by_cases hz : rc = 0
      ·subst hz
       have HR2 := Lib.hid (HR.out.trans (by rw [if_pos rfl] : _ = ((0 : Int), (⟨t, v, j.segs, 0⟩ : JnP), d3)))
       clear HR
       go_upto_region 14 with fail
       refine wp_region_held_drew (S := fun W => W.cell? ⟨w.heap.size, 0, none⟩ = some (.pointer (some ⟨gj, 0, none⟩)) ∧ True ∧ True ∧ True) (by kernel_rfl) ⟨b10, trivial, trivial, trivial⟩ (fun hHeld => ?_)
       refine held_take 0 (v := ?_) (by simp) (by kernel_rfl) (by kernel_rfl) (by kernel_rfl) (fun _ _ _ h => h) (Or.inl ⟨by rfl, ?_⟩) hHeld ?_
       case refine_2 => (intro w hSw; (try dsimp only at hSw); (try (obtain ⟨s0, s1, s2, s3⟩ := hSw)); simp only [List.getElem_cons_zero]; go_simp <;> with_reducible rfl)
       simp only [List.getElem_cons_zero, Act.put, List.setIfInBounds_toArray, List.set_cons_zero, List.set_cons_succ]
       refine held_take 1 (v := ?_) (by simp) (by kernel_rfl) (by kernel_rfl) (by kernel_rfl) (fun _ _ _ h => h) (Or.inl ⟨by rfl, ?_⟩) hHeld ?_
       case refine_2 => (intro w hSw; (try dsimp only at hSw); (try (obtain ⟨s0, s1, s2, s3⟩ := hSw)); simp only [List.getElem_cons_zero, List.getElem_cons_succ]; go_simp <;> with_reducible rfl)
       simp only [List.getElem_cons_zero, List.getElem_cons_succ, Act.put, List.setIfInBounds_toArray, List.set_cons_zero, List.set_cons_succ]
       refine held_take 2 (v := ?_) (by simp) (by kernel_rfl) (by kernel_rfl) (by kernel_rfl) (fun _ _ _ h => h) (Or.inl ⟨by rfl, ?_⟩) hHeld ?_
       case refine_2 => (intro w hSw; (try dsimp only at hSw); (try (obtain ⟨s0, s1, s2, s3⟩ := hSw)); simp only [List.getElem_cons_zero, List.getElem_cons_succ]; go_simp <;> with_reducible rfl)
       simp only [List.getElem_cons_zero, List.getElem_cons_succ, Act.put, List.setIfInBounds_toArray, List.set_cons_zero, List.set_cons_succ]
       refine held_take 3 (v := ?_) (by simp) (by kernel_rfl) (by kernel_rfl) (by kernel_rfl) (fun _ _ _ h => h) (Or.inl ⟨by rfl, ?_⟩) hHeld ?_
       case refine_2 => (intro w hSw; (try dsimp only at hSw); (try (obtain ⟨s0, s1, s2, s3⟩ := hSw)); simp only [List.getElem_cons_zero, List.getElem_cons_succ]; go_simp <;> with_reducible rfl)
       simp only [List.getElem_cons_zero, List.getElem_cons_succ, Act.put, List.setIfInBounds_toArray, List.set_cons_zero, List.set_cons_succ]
       refine held_take 4 (v := ?_) (by simp) (by kernel_rfl) (by kernel_rfl) (by kernel_rfl) (fun _ _ _ h => h) (Or.inl ⟨by rfl, ?_⟩) hHeld ?_
       case refine_2 => (intro w hSw; (try dsimp only at hSw); (try (obtain ⟨s0, s1, s2, s3⟩ := hSw)); simp only [List.getElem_cons_zero, List.getElem_cons_succ]; go_simp <;> with_reducible rfl)
       simp only [List.getElem_cons_zero, List.getElem_cons_succ, Act.put, List.setIfInBounds_toArray, List.set_cons_zero, List.set_cons_succ]
       refine held_take 5 (v := ?_) (by simp) (by kernel_rfl) (by kernel_rfl) (by kernel_rfl) (fun _ _ _ h => h) (Or.inl ⟨by rfl, ?_⟩) hHeld ?_
       case refine_2 => (intro w hSw; (try dsimp only at hSw); (try (obtain ⟨s0, s1, s2, s3⟩ := hSw)); simp only [List.getElem_cons_zero, List.getElem_cons_succ]; go_simp <;> with_reducible rfl)
       simp only [List.getElem_cons_zero, List.getElem_cons_succ, Act.put, List.setIfInBounds_toArray, List.set_cons_zero, List.set_cons_succ]
       refine held_take 6 (v := ?_) (by simp) (by kernel_rfl) (by kernel_rfl) (by kernel_rfl) (fun _ _ _ h => h) (Or.inl ⟨by rfl, ?_⟩) hHeld ?_
       case refine_2 => (intro w hSw; (try dsimp only at hSw); (try (obtain ⟨s0, s1, s2, s3⟩ := hSw)); simp only [List.getElem_cons_zero, List.getElem_cons_succ]; go_simp <;> with_reducible rfl)
       simp only [List.getElem_cons_zero, List.getElem_cons_succ, Act.put, List.setIfInBounds_toArray, List.set_cons_zero, List.set_cons_succ]
       refine held_sole 7 (by simp) (by kernel_rfl) (fun K hK => ?_)
       simp only [List.getElem_cons_zero, List.getElem_cons_succ]
       go_simp
       have hg1 := grown_setCell w9 gj 0 (.int .i64 t)
       have hJ1 := HJ10.out.set_ 0 (.int .i64 t)
       have hX1 := HX10.out.grown hg1 (by intro e; injection e with e; omega)
       have HG1 := Lib.hid hg1
       have HJ1 := Lib.hid hJ1
       have HX1 := Lib.hid hX1
       have hs1 := hg1.size
       clear hg1 hJ1 hX1 b10 j0 j1 j4 z0 z1
       generalize hw1 : (w9.setCell ⟨gj, 0, none⟩ (.int .i64 t)) = wa at HG1 HJ1 HX1 hs1 ⊢
       clear hw1
       have ba : wa.drew.cell? ⟨w.heap.size, 0, none⟩ = some (.pointer (some ⟨gj, 0, none⟩)) := HX1.out.cell 0
       have ja : wa.drew.cell? ⟨gj, 1, none⟩ = some (.int .i64 j.vote) := HJ1.out.cell 1
       have za : wa.drew.frozen? ⟨gj, 1, none⟩ = false := HJ1.out.frozen _
       refine hK.out _ _ ⟨ba, trivial, trivial, trivial⟩ (fun hHeld => ?_)
       clear hK K
       try simp only [Act.put, List.setIfInBounds_toArray, List.set_cons_zero, List.set_cons_succ]
       refine held_take 8 (v := ?_) (by simp) (by kernel_rfl) (by kernel_rfl) (by kernel_rfl) (fun _ _ _ h => h) (Or.inl ⟨by rfl, ?_⟩) hHeld ?_
       case refine_2 => (intro w hSw; (try dsimp only at hSw); (try (obtain ⟨s0, s1, s2, s3⟩ := hSw)); simp only [List.getElem_cons_zero, List.getElem_cons_succ]; go_simp <;> with_reducible rfl)
       simp only [List.getElem_cons_zero, List.getElem_cons_succ, Act.put, List.setIfInBounds_toArray, List.set_cons_zero, List.set_cons_succ]
       refine held_take 9 (v := ?_) (by simp) (by kernel_rfl) (by kernel_rfl) (by kernel_rfl) (fun _ _ _ h => h) (Or.inl ⟨by rfl, ?_⟩) hHeld ?_
       case refine_2 => (intro w hSw; (try dsimp only at hSw); (try (obtain ⟨s0, s1, s2, s3⟩ := hSw)); simp only [List.getElem_cons_zero, List.getElem_cons_succ]; go_simp <;> with_reducible rfl)
       simp only [List.getElem_cons_zero, List.getElem_cons_succ, Act.put, List.setIfInBounds_toArray, List.set_cons_zero, List.set_cons_succ]
       refine held_take 10 (v := ?_) (by simp) (by kernel_rfl) (by kernel_rfl) (by kernel_rfl) (fun _ _ _ h => h) (Or.inl ⟨by rfl, ?_⟩) hHeld ?_
       case refine_2 => (intro w hSw; (try dsimp only at hSw); (try (obtain ⟨s0, s1, s2, s3⟩ := hSw)); simp only [List.getElem_cons_zero, List.getElem_cons_succ]; go_simp <;> with_reducible rfl)
       simp only [List.getElem_cons_zero, List.getElem_cons_succ, Act.put, List.setIfInBounds_toArray, List.set_cons_zero, List.set_cons_succ]
       refine held_sole 11 (by simp) (by kernel_rfl) (fun K hK => ?_)
       simp only [List.getElem_cons_zero, List.getElem_cons_succ]
       go_simp
       have hg2 := grown_setCell wa gj 1 (.int .i64 v)
       have hJ2 := HJ1.out.set_ 1 (.int .i64 v)
       have hX2 := HX1.out.grown hg2 (by intro e; injection e with e; omega)
       have HG2 := Lib.hid (grown_then HG1.out hg2 (.inl rfl))
       have HJ2 := Lib.hid hJ2
       have HX2 := Lib.hid hX2
       have hs2 := hg2.size
       clear hg2 hJ2 hX2 ba ja za HG1 HJ1 HX1
       generalize hw2 : (wa.setCell ⟨gj, 1, none⟩ (.int .i64 v)) = wb at HG2 HJ2 HX2 hs2 ⊢
       clear hw2
       have bb : wb.drew.cell? ⟨w.heap.size, 0, none⟩ = some (.pointer (some ⟨gj, 0, none⟩)) := HX2.out.cell 0
       have jb4 : wb.drew.cell? ⟨gj, 4, none⟩ = some (.int .i64 0) := HJ2.out.cell 4
       refine hK.out _ _ ⟨bb, trivial, trivial, trivial⟩ (fun hHeld => ?_)
       clear hK K
       try simp only [Act.put, List.setIfInBounds_toArray, List.set_cons_zero, List.set_cons_succ]
       refine wpAnyH_done (by kernel_rfl) ?_ _
       clear hHeld
       go_wp2_with fail
       go_ret
       have hgd : w9.grownBy wb.drew (some gj) := grown_then HG2.out (grown_of_below (Below.refl _ wb).drew (some gj)) (.inl rfl)
       refine HH.out.acted (es2 := es3) (F' := F) (HFR.out.trans (Fr.of_grown (mine := fun k => k = gj) hgd (fun k e => by injection e with e; exact e.symm)) (fun k hk => .inl (.inr hk))) (HD10.out.keep hgd.size (fun k hk => hgd.block k (HD10.out.lt k hk).2 (fun e => by injection e with e; subst e; exact HD10.out.not_foot HJ10.out (by decide) (by decide) (by decide) hk))) HS10.out HG10.out (HTURN.out wb.drew t v 0 (by have := hgd.size; omega) (fun k hk => (hgd.block k (by have := HAP.out k hk; omega) (fun e => by injection e with e; exact (HAP.out k hk).2.2.1 e)).trans (HAP.out k hk).1) HJ2.out HT.out HV.out) (fun k hk => ⟨.inl hk, by have := HAP.out k hk; have := hgd.size; omega, (HAP.out k hk).2.2.1, (HAP.out k hk).2.2.2⟩) hbw HR2.out
      ·have hbn : (rc == 0) = false := by simpa using hz
       have HR2 := Lib.hid (HR.out.trans (by rw [if_neg hz] : _ = (rc, ({ j with bad := rc } : JnP), d3)))
       have HNU := Lib.hid HH.out.jn.num
       clear HR hz
       go_wp2_with fail
       go_ret
       exact HH.out.acted (es2 := es3) (F' := F) HFR.out HD10.out HS10.out HG10.out (HTURN.out w9 j.term j.vote rc HFR.out.size (fun k hk => (HAP.out k hk).1) HJ10.out HNU.out.1 HNU.out.2) (fun k hk => ⟨.inl hk, by have := HAP.out k hk; omega, (HAP.out k hk).2.2.1, (HAP.out k hk).2.2.2⟩) hbw HR2.out
 ·have hbn : (jb != 0) = true := bne_iff_ne.2 hb
  have HR := Lib.hid (show setMetaJ j d t v = (jb, j, d) by unfold setMetaJ; rw [if_pos (by rw [← HJB.out]; exact hb), HJB.out])
  clear hb
  go_wp2_with fail
  go_ret
  exact HH.out.same HB0.out HR.out
end Go.Proofs.YtgeofijddhflaaaGreatDoor
set_option linter.unusedVariables false
set_option linter.unusedSimpArgs false
namespace Go.Proofs.YtgeofijddhflaaaGreatDoor
open Go.RowKit Go.Maps Oct
structure RoomK (W0 w : World) (base g m gj : Nat) (F : Nat → Prop) (k : Nat) (d : DkD) (j : JnP) (es : List (Nm × FE)) : Prop where
 jn : JnK w base g m gj F d j es
 ri : RI j d
 rb : RB k j d
 low : W0.heap.size ≤ base
 bw : base ≤ w.heap.size
 from_ : Below W0.heap.size W0 w
 facts : Facts W0
theorem JAt.segB {w : World} {F : Nat → Prop} {gj g : Nat} {j : JnP} (h : JAt w F gj g j) : ∀ s ∈ j.segs, SegB s := fun s hs => by
 obtain ⟨⟨A, c, ads, h1, h2, h3, h4, h5⟩, _⟩ := h
 obtain ⟨i, hi, rfl⟩ := List.getElem_of_mem hs
 exact (h5 i (by omega) hi).rd.num
section
variable {W0 w w' : World} {base g m gj k : Nat} {F : Nat → Prop} {d : DkD} {j : JnP} {es : List (Nm × FE)}
theorem RoomK.fac (h : RoomK W0 w base g m gj F k d j es) : ∀ w', Below base w w' → Facts w' := fun w' hb => h.facts.below (h.from_.trans (hb.mono h.low))
theorem RoomK.below (h : RoomK W0 w base g m gj F k d j es) (hb : Below w.heap.size w w') : RoomK W0 w' base g m gj F k d j es :=
 ⟨h.jn.below hb, h.ri, h.rb, h.low, Nat.le_trans h.bw hb.size, h.from_.trans (hb.mono (Nat.le_trans h.low h.bw)), h.facts⟩
def RoomTo (W0 w : World) (base g m gj k : Nat) (es : List (Nm × FE)) (r : Int × JnP × DkD) (e : Ending) (w' : World) : Prop :=
 e = .returned (.int .i64 r.1) ∧ (∃ es' F', RoomK W0 w' base g m gj F' k r.2.2 r.2.1 es') ∧ Fr (fun x => DFoot g m es x ∨ x = gj) w w'
theorem RoomK.to (h : RoomK W0 w base g m gj F k d j es) {r : Int × JnP × DkD} {e : Ending} (ht : JnKTo w base g m gj es F r e w') (hri : RI r.2.1 r.2.2) (hrb : RB (k + 1) r.2.1 r.2.2) : RoomTo W0 w base g m gj (k + 1) es r e w' := by
 obtain ⟨he, es', F', hj, hfr, _, _⟩ := ht
 have hb : Below base w w' := hfr.below h.bw (fun x hx => by
  rcases hx with hx | hx
  ·exact (h.jn.disk.lt x hx).1
  ·rw [hx]; exact h.jn.lo)
 exact ⟨he, ⟨es', F', hj, hri, hrb, h.low, Nat.le_trans h.bw hfr.size, h.from_.trans (hb.mono h.low), h.facts⟩, hfr⟩
theorem RoomK.jdk (h : RoomK W0 w base g m gj F k d j es) (hk : k ≤ 90) : JDk 100000000000 d := h.rb.dk.mono (by have := rbD_60 hk; omega)
theorem ents_sum : ∀ (rs : List EntR), rs.length ≤ (rs.map fun q => q.e.b.length + 5).sum
 | [] => Nat.zero_le _
 | q :: r => by
  have := ents_sum r
  rw [List.map_cons, List.sum_cons, List.length_cons]
  omega
theorem room_save (h : RoomK W0 w base g m gj F k d j es) (hk : k ≤ 80) {E : Nat → Prop} (Ae : Option Addr) (rs : List EntR) (ce : Nat) (hre : RdF w E Ae (erCells rs)) (hde : ∀ q ∈ rs, DatF w E q.v q.e.b) (hEl : ∀ k, E k → k < w.heap.size) (hwt : (rs.map fun q => q.e.b.length + 5).sum ≤ 1048576)
  (hnum : ∀ q ∈ rs, (-9223372036854775808 ≤ q.e.ix ∧ q.e.ix ≤ 9223372036854775807) ∧ (-9223372036854775808 ≤ q.e.tm ∧ q.e.tm ≤ 9223372036854775807) ∧ (-9223372036854775808 ≤ q.e.kd ∧ q.e.kd ≤ 9223372036854775807)) :
  Calls Tryz.prog 15 #[.pointer (some ⟨gj, 0, none⟩), .slice Ae rs.length ce] w fun e w' => RoomTo W0 w base g m gj (k + 1) es (saveJ j d (rs.map EntR.e)) e w' := by
 have hp := h.ri.pre h.rb (by omega : k ≤ 90)
 have hrl := ents_sum rs
 have hpl : ((rs.map EntR.e).map jPiece).flatten.length ≤ 18000000 := by
  have h1 := pieces_len (rs.map EntR.e) (fun e he => by
   obtain ⟨q, hq, rfl⟩ := List.mem_map.1 he
   exact ⟨(hnum q hq).2.1, (hnum q hq).2.2⟩)
  have h2 : (((rs.map EntR.e).map fun e => e.b.length + 5).sum) = (rs.map fun q => q.e.b.length + 5).sum := by rw [List.map_map]; rfl
  rw [h2] at h1
  omega
 refine (jsave_any h.jn h.bw (h.jdk (by omega)) (by omega) (fun w' hb => (h.fac w' hb).tab) hp.seg hp.ks hp.long hp.ends hp.sum Ae rs ce hre hde hEl (by omega) (by omega) hnum).mono fun e w' ht => ?_
 refine h.to ht ?_ (h.rb.save _ h.jn.jn.segB (fun e he => ?_) (by rw [List.length_map]; omega) hpl)
 ·obtain ⟨pw, room, fs⟩ := d
  exact (save_calm h.ri _).1
 ·obtain ⟨q, hq, rfl⟩ := List.mem_map.1 he
  exact (hnum q hq).1.2
theorem room_setMeta (h : RoomK W0 w base g m gj F k d j es) (hk : k ≤ 80) (t v : Int) (ht : -9223372036854775808 ≤ t ∧ t ≤ 9223372036854775807) (hv : -9223372036854775808 ≤ v ∧ v ≤ 9223372036854775807) :
  Calls Tryz.prog 16 #[.pointer (some ⟨gj, 0, none⟩), .int .i64 t, .int .i64 v] w fun e w' => RoomTo W0 w base g m gj (k + 1) es (setMetaJ j d t v) e w' :=
 (jsetmeta_any h.jn h.bw (h.jdk (by omega)) (by omega) (fun w' hb => (h.fac w' hb).tab) t v ht hv).mono fun e w' hto => h.to hto (setMeta_calm h.ri t v).1 (h.rb.setMeta t v ht hv)
theorem room_compact (h : RoomK W0 w base g m gj F k d j es) (hk : k ≤ 80) (ix t : Int) (hix : -9223372036854775808 ≤ ix ∧ ix ≤ 9223372036854775807) (ht : -9223372036854775808 ≤ t ∧ t ≤ 9223372036854775807) :
  Calls Tryz.prog 17 #[.pointer (some ⟨gj, 0, none⟩), .int .i64 ix, .int .i64 t] w fun e w' => RoomTo W0 w base g m gj (k + 1) es (compactJ j d ix t) e w' :=
 (jcompact_any h.jn h.bw (h.jdk (by omega)) (by omega) (fun w' hb => (h.fac w' hb).tab) (by have := h.rb.len; omega) (fun s hs => (h.ri.segs.seg s hs).2.1) ix t hix ht).mono fun e w' hto => h.to hto (compact_calm h.ri ix t).1 (h.rb.compact ix t hix ht)
theorem room_files (h : RoomK W0 w base g m gj F k d j es) (hk : k ≤ 90) :
  Calls Tryz.prog 25 #[.pointer (some ⟨g, 0, none⟩)] w fun e w' => ∃ A rs c, e = .returned (.slice A (rs : List (Nm × RF)).length c) ∧ RRow w' w.heap.size (.slice A rs.length c) rs ∧ (∀ q ∈ rs, Got w' w.heap.size q.2.v q.2.f.b) ∧ sec RF.f rs = d.fs ∧ Below w.heap.size w w' := by
 have hd := h.jdk hk
 have hmem : ∀ q ∈ es, (q.1, q.2.f) ∈ d.fs := fun q hq => by rw [← h.jn.fs]; exact List.mem_map.2 ⟨q, hq, rfl⟩
 have hlen : es.length = d.fs.length := by rw [← h.jn.fs]; simp [sec]
 refine (files_any h.jn.disk (by have := hd.len; omega) (fun q hq => by have h1 := jsizes_mem (hmem q hq); have h2 := hd.sz; have h3 : (q.2.f.b.length : Int) ≤ sizes d.fs := h1; omega) (fun q hq => by have h1 : q.1.length ≤ 1000 := hd.nm _ (hmem q hq); omega)).mono fun e w' ⟨v, rs, h1, h2, h3, h4, h5⟩ => ?_
 obtain ⟨A, c, hv⟩ := h2.shape
 subst hv
 exact ⟨A, rs, c, h1, h2, h3, h4.trans h.jn.fs, h5⟩
theorem ents_len {n : Nat} : ∀ (ss : List SegP), (∀ s ∈ ss, s.l.length ≤ n) → ((ss.map SegP.l).flatten).length ≤ ss.length * n
 | [], _ => by simp
 | s :: r, h => by
  have h1 := ents_len r (fun x hx => h x (List.mem_cons_of_mem _ hx))
  have h2 := h s (List.mem_cons_self ..)
  rw [List.map_cons, List.flatten_cons, List.length_append, List.length_cons, Nat.succ_mul]
  omega
theorem RoomK.entsLen (h : RoomK W0 w base g m gj F k d j es) (hk : k ≤ 90) : j.ents.length ≤ 1099511627776 := by
 have h1 := ents_len j.segs h.rb.ent
 have h2 := rbE_60 hk
 have h3 := h.rb.len
 have h4 : j.segs.length * rbE k ≤ 90 * 94371840 := Nat.mul_le_mul (by omega) h2
 unfold JnP.ents
 omega
theorem room_entries (h : RoomK W0 w base g m gj F k d j es) (hk : k ≤ 90) :
  Calls Tryz.prog 18 #[.pointer (some ⟨gj, 0, none⟩)] w fun e w' => ∃ A rs c, e = .returned (.slice A (rs : List EntR).length c) ∧ RdF w' (fun x => w.heap.size ≤ x ∧ x < w'.heap.size) A (erCells rs) ∧ rs.map EntR.e = j.ents ∧ (∀ q ∈ rs, DatF w' (fun x => w.heap.size ≤ x ∧ x < w'.heap.size) q.v q.e.b) ∧ Below w.heap.size w w' := by
 refine (h.jn.jn.entries (fun x hx => (h.jn.apart x hx).2.1) (h.entsLen hk)).mono fun e w' ⟨v, rs, h1, h2, h3, h4, h5⟩ => ?_
 obtain ⟨A, c, hv, _⟩ := jrow_shape h2
 subst hv
 refine ⟨A, rs, c, h1, RdF.of_row h2 (fun x h6 h7 => ⟨h6, h7⟩) (by rw [erCells_len]; omega), h3, fun q hq => ?_, h5⟩
 have h6 := h4 q hq
 obtain ⟨A1, c1, e1, k1, k2, _⟩ := bs_shape h6
 rw [e1] at h6
 exact ⟨A1, c1, e1, k1, k2, RdF.of_own h6 (fun x h7 h8 => ⟨h7, h8⟩)⟩
end
end Go.Proofs.YtgeofijddhflaaaGreatDoor
set_option linter.unusedVariables false
set_option linter.unusedSimpArgs false
namespace Go.Proofs.YtgeofijddhflaaaGreatDoor
open Go.RowKit Go.Maps Oct
def sd0 : DkD := ⟨⟨false, false, 0, 0⟩, 1000, []⟩
def sj0 : JnP := ⟨0, 0, [], 0⟩
def sl1 : List EntP := [⟨1, 1, 0, [97]⟩, ⟨2, 1, 0, [98]⟩]
def sl2 : List EntP := [⟨2, 2, 0, [99]⟩]
def sr1 : Int × JnP × DkD := saveJ sj0 sd0 sl1
def sr2 : Int × JnP × DkD := saveJ sr1.2.1 sr1.2.2 sl2
def sr3 : Int × JnP × DkD := setMetaJ sr2.2.1 sr2.2.2 3 1
def sd4 : DkD := sr3.2.2.boot []
def sr4 : Int × Option JnP × DkD := openJ sd4
def sj4 : JnP := sr4.2.1.getD sj0
theorem sr_ok : sr1.1 = 0 ∧ sr2.1 = 0 ∧ sr3.1 = 0 ∧ sr4.1 = 0 := ⟨by kernel_rfl, by kernel_rfl, by kernel_rfl, by kernel_rfl⟩
theorem sr4_some : sr4.2.1 = some sj4 := by
 have h : sr4.2.1.isSome = true := by kernel_rfl
 unfold sj4
 cases hq : sr4.2.1 with
 | none => rw [hq] at h; cases h
 | some x => rfl
theorem sj4_is : sj4.term = 3 ∧ sj4.vote = 1 ∧ sj4.ents.length = 2 ∧ (sj4.ents[1]?).map EntP.b = some [99] := ⟨by kernel_rfl, by kernel_rfl, by kernel_rfl, by kernel_rfl⟩
theorem sopen0 : openJ sd0 = (0, some sj0, sd0) := by kernel_rfl
theorem ri0 {room : Int} : RI sj0 ⟨⟨false, false, 0, 0⟩, room, []⟩ := ⟨rfl, ⟨rfl, rfl⟩, (fun s hs => by cases hs), List.Pairwise.nil⟩
theorem rb0 {room : Int} : RB 0 sj0 ⟨⟨false, false, 0, 0⟩, room, []⟩ := ⟨⟨by simp [sizes, rbD], by simp [rbD], fun q hq => by cases hq⟩, by simp [sj0], fun s hs => by cases hs⟩
theorem heap_behind {w W : World} (o : Obj) (hb : Below (w.heap.size + 1) (w.alloc o) W) : W.heap[w.heap.size]? = some o := (hb.block _ (by omega)).trans (Go.heap_alloc_new w o)
theorem heap_behind1 {w W : World} (o1 o : Obj) (hb : Below (w.heap.size + 1 + 1) ((w.alloc o1).alloc o) W) : W.heap[w.heap.size + 1]? = some o := by
 have e : (w.alloc o1).heap.size = w.heap.size + 1 := by simp
 have h := heap_behind (w := w.alloc o1) (W := W) o (by rw [e]; exact hb)
 rwa [e] at h
theorem heap_behind2 {w W : World} (o1 o2 o : Obj) (hb : Below (w.heap.size + 1 + 1 + 1) (((w.alloc o1).alloc o2).alloc o) W) : W.heap[w.heap.size + 1 + 1]? = some o := by
 have e : (w.alloc o1).heap.size = w.heap.size + 1 := by simp
 have h := heap_behind1 (w := w.alloc o1) (W := W) o2 o (by rw [e]; exact hb)
 rwa [e] at h
theorem sd4_ok : JDk 1000000000 sd4 := by
 have h3 : sd4.fs.all (fun q => decide (q.1.length ≤ 1000)) = true := by kernel_rfl
 exact ⟨of_decide_eq_true (by kernel_rfl), of_decide_eq_true (by kernel_rfl), fun q hq => of_decide_eq_true (List.all_eq_true.1 h3 q hq)⟩
theorem rdF_heap {w : World} {b : Nat} {T : TypeId} {cs : Array Value} {fz : Nat × Nat} (h : w.heap[b]? = some (.cells cs T fz)) {F : Nat → Prop} (hF : F b) : RdF w F (some ⟨b, 0, none⟩) cs.toList := fun _ =>
 ⟨b, 0, rfl, hF, (Array.getElem?_eq_some_iff.1 h).1, fun j u hu => by rw [Nat.zero_add, Go.cell_of_row w b j cs T fz h, ← Array.getElem?_toList]; exact hu⟩
set_option maxHeartbeats 4000000 in
set_option maxRecDepth 100000 in
theorem jsmall_any (W0 : World) (hF : Facts W0) : Calls Tryz.prog 7 #[] W0 fun e w' => e = .returned (.bool true) ∧ Below W0.heap.size W0 w' := by
 have HF := Lib.hid hF
 clear hF
 have kc := fun (w : World) (C : Array Value) (n c : Nat) => Lib.run_convert_bytes_const (P := Tryz.prog) w 34 5 C n c Tryz.underlying34 Tryz.underlying5
 go_enter Tryz.func7, Tryz.ntmps7
 go_wp2_with fail
 refine (dnew_any 1000 (by omega) W0).mono ?_
 rintro e w1 ⟨rfl, hD, hb1⟩
 have hD1 : DiskAt w1 W0.heap.size (W0.heap.size + 1) W0.heap.size sd0.pw sd0.room [] := hD
 have HB1 := Lib.hid hb1
 have hs1 := hb1.size
 have HOP := Lib.hid (jopen_any hD1 (L := 1000) ⟨by simp [sizes, dkOf, sec], by simp [dkOf, sec], fun q hq => by cases hq⟩ (by omega) hs1 (fun w' hb => ⟨(HF.out.below (HB1.out.trans hb)).tab, (HF.out.below (HB1.out.trans hb)).err⟩))
 have he : dkOf sd0.pw sd0.room [] = sd0 := rfl
 rw [he, sopen0] at HOP
 clear hb1 hD hD1 he
 go_wp2_with fail
 refine HOP.out.mono ?_
 rintro e w2 ⟨es2, hD2, hS2, hfr2, hgr2, hm⟩
 simp only at hm
 obtain ⟨gj, F, rfl, hgj, hJ, hFa⟩ := hm
 have hb2 : Below W0.heap.size w1 w2 := hfr2.below hs1 (fun x hx => by
  rcases hx with h | h | ⟨q, hq, _⟩
  ·omega
  ·omega
  ·cases hq)
 have HR0 : Hid (RoomK W0 w2 W0.heap.size (W0.heap.size + 1) W0.heap.size gj F 0 sd0 sj0 es2) := Lib.hid ⟨⟨hD2, hS2, hJ, fun x hx => ⟨by have := (hFa x hx).1; omega, (hFa x hx).2⟩, by omega⟩, ri0, rb0, Nat.le_refl _, by have := hfr2.size; omega, HB1.out.trans hb2, HF.out⟩
 have hs2 := hfr2.size
 clear hD2 hS2 hfr2 hgr2 hJ hFa hb2 HOP
 have kc2 : (convert 34 34 (.slice (some ⟨w2.heap.size + 1, 0, none⟩) 1 1)).run Tryz.prog ((w2.alloc (.cells #[.int .u8 97] 5 (1, 2))).alloc (.cells #[.int .u8 98] 5)) = .ok (.slice (some ⟨w2.heap.size + 1, 0, none⟩) 1 1) ((w2.alloc (.cells #[.int .u8 97] 5 (1, 2))).alloc (.cells #[.int .u8 98] 5 (1, 2))) := by
  have h := kc (w2.alloc (.cells #[.int .u8 97] 5 (1, 2))) #[.int .u8 98] 1 1
  have e : (w2.alloc (.cells #[.int .u8 97] 5 (1, 2))).heap.size = w2.heap.size + 1 := by simp
  rw [e] at h
  exact h
 go_wp2_with fail
 obtain ⟨wA, hwA⟩ : ∃ W, W = ((w2.alloc (.cells #[.int .u8 97] 5 (1, 2))).alloc (.cells #[.int .u8 98] 5 (1, 2))).alloc (.cells #[.int .i64 1, .int .i64 1, .int .i64 0, .slice (some ⟨w2.heap.size, 0, none⟩) 1 1, .int .i64 2, .int .i64 1, .int .i64 0, .slice (some ⟨w2.heap.size + 1, 0, none⟩) 1 1] 65) := ⟨_, rfl⟩
 have hbA : Below w2.heap.size w2 wA := by rw [hwA]; exact (((Below.refl _ w2).alloc (Nat.le_refl _) _).alloc (by simp) _).alloc (by simp <;> omega) _
 have ha0 : wA.heap[w2.heap.size]? = some (.cells #[.int .u8 97] 5 (1, 2)) := by rw [hwA]; exact heap_behind _ (((Below.refl _ _).alloc (by simp) _).alloc (by simp <;> omega) _)
 have ha1 : wA.heap[w2.heap.size + 1]? = some (.cells #[.int .u8 98] 5 (1, 2)) := by rw [hwA]; exact heap_behind1 _ _ ((Below.refl _ _).alloc (by simp) _)
 have ha2 : wA.heap[w2.heap.size + 1 + 1]? = some (.cells #[.int .i64 1, .int .i64 1, .int .i64 0, .slice (some ⟨w2.heap.size, 0, none⟩) 1 1, .int .i64 2, .int .i64 1, .int .i64 0, .slice (some ⟨w2.heap.size + 1, 0, none⟩) 1 1] 65) := by rw [hwA]; exact heap_behind2 _ _ _ (Below.refl _ _)
 have hsA : wA.heap.size = w2.heap.size + 3 := by rw [hwA]; simp
 rw [← hwA]
 have HSV : Hid (Calls Tryz.prog 15 #[.pointer (some ⟨gj, 0, none⟩), .slice (some ⟨w2.heap.size + 1 + 1, 0, none⟩) 2 2] wA fun e w' => RoomTo W0 wA W0.heap.size (W0.heap.size + 1) W0.heap.size gj 1 es2 sr1 e w') := Lib.hid (room_save (HR0.out.below hbA) (by omega) (E := fun x => x < wA.heap.size) (some ⟨w2.heap.size + 1 + 1, 0, none⟩) [⟨.slice (some ⟨w2.heap.size, 0, none⟩) 1 1, ⟨1, 1, 0, [97]⟩⟩, ⟨.slice (some ⟨w2.heap.size + 1, 0, none⟩) 1 1, ⟨2, 1, 0, [98]⟩⟩] 2 (rdF_heap ha2 (by omega)) (fun q hq => by
   simp only [List.mem_cons, List.not_mem_nil, or_false] at hq
   rcases hq with rfl | rfl
   ·exact ⟨_, _, rfl, Nat.le_refl _, by simp, rdF_heap ha0 (by omega)⟩
   ·exact ⟨_, _, rfl, Nat.le_refl _, by simp, rdF_heap ha1 (by omega)⟩) (fun _ h => h) (by simp) (fun q hq => by
   simp only [List.mem_cons, List.not_mem_nil, or_false] at hq
   rcases hq with rfl | rfl <;> simp))
 clear hwA hbA ha0 ha1 ha2 kc2 HR0
 refine HSV.out.mono ?_
 rintro e w3 ⟨he, ⟨es3, F3, hR3⟩, hfr3⟩
 rw [sr_ok.1] at he
 subst he
 have HR3 := Lib.hid hR3
 have hs3 := hfr3.size
 clear hR3 hfr3 HSV
 go_wp2_with fail
 obtain ⟨wB, hwB⟩ : ∃ W, W = (w3.alloc (.cells #[.int .u8 99] 5 (1, 2))).alloc (.cells #[.int .i64 2, .int .i64 2, .int .i64 0, .slice (some ⟨w3.heap.size, 0, none⟩) 1 1] 65) := ⟨_, rfl⟩
 have hbB : Below w3.heap.size w3 wB := by rw [hwB]; exact ((Below.refl _ w3).alloc (Nat.le_refl _) _).alloc (by simp) _
 have hb0 : wB.heap[w3.heap.size]? = some (.cells #[.int .u8 99] 5 (1, 2)) := by rw [hwB]; exact heap_behind _ ((Below.refl _ _).alloc (by simp) _)
 have hb1 : wB.heap[w3.heap.size + 1]? = some (.cells #[.int .i64 2, .int .i64 2, .int .i64 0, .slice (some ⟨w3.heap.size, 0, none⟩) 1 1] 65) := by rw [hwB]; exact heap_behind1 _ _ (Below.refl _ _)
 have hsB : wB.heap.size = w3.heap.size + 2 := by rw [hwB]; simp
 rw [← hwB]
 have HSV : Hid (Calls Tryz.prog 15 #[.pointer (some ⟨gj, 0, none⟩), .slice (some ⟨w3.heap.size + 1, 0, none⟩) 1 1] wB fun e w' => RoomTo W0 wB W0.heap.size (W0.heap.size + 1) W0.heap.size gj 2 es3 sr2 e w') := Lib.hid (room_save (HR3.out.below hbB) (by omega) (E := fun x => x < wB.heap.size) (some ⟨w3.heap.size + 1, 0, none⟩) [⟨.slice (some ⟨w3.heap.size, 0, none⟩) 1 1, ⟨2, 2, 0, [99]⟩⟩] 1 (rdF_heap hb1 (by omega)) (fun q hq => by
   obtain rfl := List.mem_singleton.1 hq
   exact ⟨_, _, rfl, Nat.le_refl _, by simp, rdF_heap hb0 (by omega)⟩) (fun _ h => h) (by simp) (fun q hq => by
   obtain rfl := List.mem_singleton.1 hq
   simp))
 clear hwB hbB hb0 hb1 HR3
 refine HSV.out.mono ?_
 rintro e w4 ⟨he, ⟨es4, F4, hR4⟩, hfr4⟩
 rw [sr_ok.2.1] at he
 subst he
 have hs4 := hfr4.size
 have HSM : Hid (Calls Tryz.prog 16 #[.pointer (some ⟨gj, 0, none⟩), .int .i64 3, .int .i64 1] w4 fun e w' => RoomTo W0 w4 W0.heap.size (W0.heap.size + 1) W0.heap.size gj 3 es4 sr3 e w') := Lib.hid (room_setMeta hR4 (by omega) 3 1 (by omega) (by omega))
 clear hR4 hfr4 HSV
 go_wp2_with fail
 refine HSM.out.mono ?_
 rintro e w5 ⟨he, ⟨es5, F5, hR5⟩, hfr5⟩
 rw [sr_ok.2.2.1] at he
 subst he
 have hs5 := hfr5.size
 have hjd := hR5.jdk (by omega)
 have hmem5 : ∀ q ∈ es5, (q.1, q.2.f) ∈ sr3.2.2.fs := fun q hq => by rw [← hR5.jn.fs]; exact List.mem_map.2 ⟨q, hq, rfl⟩
 have hbt := dboot_any hR5.jn.disk none [] 0 Rd.none_ (fun n hn => by cases hn) (by simp) (by have h := congrArg List.length hR5.jn.fs; simp [sec] at h; have := hjd.len; omega) (fun q hq => by have h1 := jsizes_mem (hmem5 q hq); have h2 := hjd.sz; have h3 : (q.2.f.b.length : Int) ≤ sizes sr3.2.2.fs := h1; omega) (fun q hq => by have h1 : q.1.length ≤ 1000 := hjd.nm _ (hmem5 q hq); omega)
 rw [DkD.eta' _ hR5.jn.fs] at hbt
 have HBT := Lib.hid hbt
 have HLO := Lib.hid (fun k hk => (hR5.jn.disk.lt k hk).1)
 have HB5 := Lib.hid hR5.from_
 have hbw5 := hR5.bw
 clear hR5 hfr5 HSM hbt hjd hmem5
 go_wp2_with fail
 refine HBT.out.mono ?_
 rintro e w6 ⟨⟨v6, rfl⟩, es6, hD6, hS6, hfr6, hgr6⟩
 have hs6 := hfr6.size
 have HB6 := Lib.hid (HB5.out.trans (hfr6.below hbw5 HLO.out))
 have e4 : dkOf (sr3.2.2.boot []).pw (sr3.2.2.boot []).room es6 = sd4 := DkD.eta' sd4 hS6
 have HOP := Lib.hid (jopen_any hD6 (L := 1000000000) (by rw [e4]; exact sd4_ok) (Nat.le_refl _) (by omega) (fun w' hb => ⟨(HF.out.below (HB6.out.trans hb)).tab, (HF.out.below (HB6.out.trans hb)).err⟩))
 rw [e4] at HOP
 have HLO6 := Lib.hid (fun k hk => (hD6.lt k hk).1)
 clear hD6 hS6 e4 hfr6 hgr6 HBT HB5
 go_wp2_with fail
 refine HOP.out.mono ?_
 rintro e w7 ⟨es7, hD7, hS7, hfr7, hgr7, hm⟩
 have hsr4 : openJ sd4 = sr4 := rfl
 rw [hsr4, sr4_some, sr_ok.2.2.2] at hm
 simp only at hm
 obtain ⟨gk, F7, rfl, hgk, hJ7, hF7⟩ := hm
 have hs7 := hfr7.size
 have HJ7 := Lib.hid hJ7
 have HF7 := Lib.hid hF7
 have HB7 : Hid (Below W0.heap.size W0 w7) := Lib.hid (HB6.out.trans (hfr7.below (by omega) HLO6.out))
 clear hD7 hS7 hfr7 hgr7 hJ7 hF7 HOP hsr4
 have HME := Lib.hid HJ7.out.meta_
 rw [sj4_is.1, sj4_is.2.1] at HME
 go_wp2_with fail
 refine HME.out.mono ?_
 rintro e w8 ⟨rfl, hb8⟩
 have hs8 := hb8.size
 have HB8 := Lib.hid (HB7.out.trans (hb8.mono (by omega)))
 have HEN := Lib.hid ((HJ7.out.below (fun x hx => (HF7.out x hx).2.1) hb8).entries (fun x hx => by have := (HF7.out x hx).2.1; omega) (by rw [sj4_is.2.2.1]; omega))
 clear hb8 HME
 go_wp2_with fail
 refine HEN.out.mono ?_
 rintro e w9 ⟨v9, rs9, rfl, hrow, hmap, hbs, hb9⟩
 have hrl : rs9.length = 2 := by
  have h1 := congrArg List.length hmap
  rw [List.length_map, sj4_is.2.2.1] at h1
  exact h1
 have hlt1 : 1 < rs9.length := by omega
 obtain ⟨A9, c9, hv9, _⟩ := jrow_shape hrow
 subst hv9
 obtain ⟨b, o, hA9, _, hltb, hc⟩ := (RdF.of_row (F := fun _ => True) hrow (fun _ _ _ => trivial) (by rw [erCells_len]; omega)) (by rw [erCells_len]; omega)
 subst hA9
 have hqb : rs9[1].e.b = [99] := by
  have h1 := sj4_is.2.2.2
  rw [← hmap, List.getElem?_map, List.getElem?_eq_getElem hlt1] at h1
  simpa using h1
 have hq := hbs rs9[1] (List.getElem_mem hlt1)
 rw [hqb] at hq
 obtain ⟨A1, c1, hv1, k1, k2, hr1⟩ := bs_shape hq
 have e3 : w9.cell? ⟨b, o + 4 + 3, none⟩ = some (.slice A1 1 c1) := by
  have h := hc (1 * 4 + 3) _ (by rw [erCells_at rs9 hlt1 (by omega)]; exact rfl)
  rw [hv1] at h
  simpa [Nat.add_assoc] using h
 have hst : (convert 34 9 (.slice A1 1 c1)).run Tryz.prog w9 = .ok (.string ⟨#[99]⟩) w9 := str_of c1 hr1
 have HB9 := Lib.hid (HB8.out.trans (hb9.mono (by omega)))
 rw [hrl]
 clear hrow hmap hbs hb9 hc hqb hq hv1 hr1 HEN
 go_wp2_with fail
 go_ret
 exact ⟨rfl, HB9.out⟩
end Go.Proofs.YtgeofijddhflaaaGreatDoor
