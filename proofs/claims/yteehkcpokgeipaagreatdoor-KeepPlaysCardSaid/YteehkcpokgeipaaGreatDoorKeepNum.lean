/- pavaneref23: name, number. Condition: a name is at most 1000 bytes. -/
import Derived.Test.YteehkcpokgeipaaGreatDoorKeepOpen
import Derived.Test.YteehkcpokgeipaaGreatDoorKeepMay
import Derived.Test.YteehkcpokgeipaaGreatDoorDiskNames
import Derived.Test.YteehkcpokgeipaaGreatDoorCalcRParse
import Derived.Test.YteehkcpokgeipaaGreatDoorCalcRText
import Derived.Test.YteehkcpokgeipaaGreatDoorShelfC
import Derived.Sort.OwnSortedInts
import Derived.BigQuiet
import Derived.Deep.Cut
set_option linter.unusedVariables false
namespace Go.Proofs.YteehkcpokgeipaaGreatDoor
open Go.RowKit Go.Maps Go.Sort Go.Shelf Oct
def idxOf : Nm → Option Int
 | [] => none
 | c :: r => if c = 115 ∧ (parseS r).2.2 = 0 ∧ (parseS r).2.1 = (r.length : Int) ∧ outB (parseS r).1 = false then some (parseS r).1 else none
def idxU (ns : List Nm) : List Int := ns.filterMap idxOf
def idxL (ns : List Nm) : List Int := (idxU ns).mergeSort fun x y => decide (x ≤ y)
set_option maxHeartbeats 2000000 in
set_option maxRecDepth 100000 in
theorem indexes_any {w : World} {base g m : Nat} {p : PWD} {room : Int} {es : List (Nm × FE)} (h : DiskAt w base g m p room es) (hl : es.length ≤ 4398046511104) (hn : ∀ q ∈ es, q.1 ≠ [] ∧ q.1.length ≤ 1000) (hE : ErrR w) :
  Calls Tryz.prog 27 #[.pointer (some ⟨g, 0, none⟩)] w fun e w' => ∃ v, e = .returned v ∧ Own w' w.heap.size 3 v ((idxL (es.map (·.1))).map (Value.int .i64)) ∧ Below w.heap.size w w' := by
 have HNM := Lib.hid (names_any h hl)
 have HE := Lib.hid hE
 clear h hE
 go_enter Tryz.func27, Tryz.ntmps27
 go_wp2_with fail
 refine HNM.out.mono ?_
 rintro e w1 ⟨v1, rfl, hv1, hb1⟩
 obtain ⟨A1, c1, rfl, hc1, hc2, hr1⟩ := hv1.shape
 rw [List.length_map] at hc1
 rw [List.length_map]
 have hs1 := hb1.size
 have HR1 := Lib.hid hr1
 have HV1 := Lib.hid hv1
 have HB1 := Lib.hid hb1
 have HE1 := Lib.hid (HE.out.below hb1)
 clear hr1 hv1 hb1 HE HNM
 go_wp2_with fail
 go_loopw [12, 3, 5, 6, 7, 8] (fun i v _ _ _ _ wr => ∃ k : Nat, k ≤ es.length ∧ i = .int .i64 k ∧ Hid (Own wr w1.heap.size 3 v ((idxU ((es.map (·.1)).take k)).map (Value.int .i64))) ∧ Hid (Below w1.heap.size w1 wr)) (fun i _ _ _ _ _ _ => es.length - (intOf i).toNat)
 case atStart => exact ⟨0, by omega, rfl, Lib.hid (Own.nil _ _ _), Lib.hid (Below.refl _ _)⟩
 case round =>
  obtain ⟨k, hk, rfl, HO, HB⟩ := hrel
  by_cases hlt : k < es.length
  ·obtain ⟨ad, rfl, hab, hca⟩ := (HR1.out.below HB.out).at_ (k := k) (by rw [List.length_map]; exact hlt)
   rw [List.getElem_map] at hca
   have hne := hn _ (List.getElem_mem hlt)
   obtain ⟨ch, r, hcr⟩ : ∃ ch r, es[k].1 = ch :: r := by
    rcases e : es[k].1 with _ | ⟨a, b⟩
    ·exact absurd e hne.1
    ·exact ⟨a, b, rfl⟩
   obtain ⟨s, hs⟩ : ∃ s, s = str es[k].1 := ⟨_, rfl⟩
   rw [← hs] at hca
   have hsd : s.data.toList = ch :: r := by rw [hs, hcr]; rfl
   have hsz : s.size = r.length + 1 := by
    show s.data.size = _
    rw [← Array.length_toList, hsd, List.length_cons]
   have hrl : r.length ≤ 1000 := by
    have := hne.2
    rw [hcr] at this
    simp at this
    omega
   have hex : (s.extract 1 s.size).data.toList = r := by
    rw [ByteArray.data_extract, Array.toList_extract, hsd, hsz]
    simp
   have hpos : 1 ≤ s.size := by omega
   have hs0 : s[0]'hpos = ch := by
    have : s.data.toList[0]'(by rw [hsd]; simp) = ch := by simp [hsd]
    rw [Array.getElem_toList] at this
    exact this
   have hxs : (s.extract 1 s.size).size ≤ 140737488351232 := by
    show (s.extract 1 s.size).data.size ≤ _
    rw [← Array.length_toList, hex]
    omega
   have hsz2 : (s.size : Int) = r.length + 1 := by omega
   have HPA := Lib.hid (parse_any (s.extract 1 s.size) hxs wr (HE1.out.below HB.out))
   rw [hex] at HPA
   have HC := Lib.hid hcr
   obtain ⟨pn, hpn⟩ : ∃ pn, pn = (parseS r).1 := ⟨_, rfl⟩
   obtain ⟨pu, hpu⟩ : ∃ pn, pn = (parseS r).2.1 := ⟨_, rfl⟩
   obtain ⟨pe, hpe⟩ : ∃ pn, pn = (parseS r).2.2 := ⟨_, rfl⟩
   rw [← hpn, ← hpu, ← hpe] at HPA
   have HPn := Lib.hid hpn
   have HPu := Lib.hid hpu
   have HPe := Lib.hid hpe
   have HS0 := Lib.hid hs0
   have HSZ := Lib.hid hsz2
   have hsle : s.size ≤ 1001 := by omega
   clear hcr hs hsd hex hne hxs hpn hpu hpe hs0 hsz2 hsz
   go_wp2_with fail
   refine HPA.out.mono ?_
   rintro e w2 ⟨rfl, hb2⟩
   clear HPA
   have HB2 := Lib.hid (HB.out.trans (hb2.mono HB.out.size))
   have HO2 := Lib.hid (HO.out.below hb2 (Nat.le_refl _))
   clear HB HO hb2 hca
   go_upto_region 6 with fail
   have HI := Lib.hid (show idxOf es[k].1 = if ch = 115 ∧ pe = 0 ∧ (pu : Int) = (r.length : Int) ∧ outB pn = false then some pn else none by
    rw [HC.out, HPn.out, HPu.out, HPe.out]
    rfl)
   obtain ⟨B, hB⟩ : ∃ B, B = decide (ch = 115 ∧ pe = 0 ∧ (pu : Int) = (r.length : Int) ∧ outB pn = false) := ⟨_, rfl⟩
   have HBB := Lib.hid hB
   clear hB
   go_cut [41] from 23 to 41 (fun c wx => c = .bool B ∧ Hid (Below w2.heap.size w2 wx))
   case first =>
    have hch : (s[0].toNat : Int) = 115 ↔ ch = 115 := by
     rw [HS0.out]
     constructor
     ·intro e
      refine UInt8.toNat_inj.1 ?_
      show ch.toNat = 115
      omega
     ·rintro rfl
      rfl
    have HCH := Lib.hid hch
    clear hch
    have hrdw := rd_lit w2 3 [.int .i64 pn]
    by_cases h1 : (s[0].toNat : Int) = 115
    ·have hB1 := Lib.hid (HCH.out.1 h1)
     by_cases h2 : pe = 0
     ·subst h2
      by_cases h3 : (pu : Int) = (s.size : Int) - 1
      ·obtain rfl : pu = r.length := by have := HSZ.out; omega
       clear h3
       have hsz3 := HSZ.out
       go_wp2_with (go_at_call 66; refine (within_any (some ⟨w2.heap.size, 0, none⟩) [pn] 1 1 _ rfl _ hrdw (by simp)).mono ?_; rintro e w3 ⟨rfl, rfl⟩)
       go_meet
       refine ⟨congrArg Value.bool ?_, Lib.hid ((Below.refl _ _).alloc (Nat.le_refl _) _)⟩
       rw [HBB.out]
       rcases e : outB pn with _ | _
       ·exact (decide_eq_true ⟨hB1.out, by simp⟩).symm
       ·exact (decide_eq_false fun h => by have := h.2.2.2; cases this).symm
      ·have hB3 := Lib.hid (show ¬ (pu : Int) = (r.length : Int) by have := HSZ.out; omega)
       go_wp2_with fail
       go_meet
       exact ⟨congrArg Value.bool (by rw [HBB.out]; exact (decide_eq_false fun h => hB3.out h.2.2.1).symm), Lib.hid (Below.refl _ _)⟩
     ·go_wp2_with fail
      go_meet
      exact ⟨congrArg Value.bool (by rw [HBB.out]; exact (decide_eq_false fun h => h2 h.2.1).symm), Lib.hid (Below.refl _ _)⟩
    ·have hB1 := Lib.hid (fun e => h1 (HCH.out.2 e))
     go_wp2_with fail
     go_meet
     exact ⟨congrArg Value.bool (by rw [HBB.out]; exact (decide_eq_false fun h => hB1.out h.1).symm), Lib.hid (Below.refl _ _)⟩
   case rest =>
    obtain ⟨rfl, HW⟩ := hcut
    have HBx := Lib.hid (HB2.out.trans (HW.out.mono HB2.out.size))
    have HOx := Lib.hid (HO2.out.below HW.out (Nat.le_refl _))
    clear HW HB2 HO2
    have htk : (es.map (·.1)).take (k + 1) = (es.map (·.1)).take k ++ [es[k].1] := by
     rw [List.take_add_one, List.getElem?_eq_getElem (by rw [List.length_map]; exact hlt), List.getElem_map]
     rfl
    have HTK := Lib.hid htk
    clear htk
    by_cases hBt : B = true
    ·subst hBt
     have hP := of_decide_eq_true HBB.out.symm
     have HU := Lib.hid (show idxU ((es.map (·.1)).take (k + 1)) = idxU ((es.map (·.1)).take k) ++ [pn] by
      rw [HTK.out]
      unfold idxU
      rw [List.filterMap_append, List.filterMap_cons, HI.out, if_pos hP]
      rfl)
     have hlen : (idxU ((es.map (·.1)).take k)).length ≤ k := by
      have h1 := List.length_filterMap_le idxOf ((es.map (·.1)).take k)
      have h2 : ((es.map (·.1)).take k).length ≤ k := by rw [List.length_take]; omega
      unfold idxU
      omega
     clear hP
     have hrdw := rd_lit wc 3 [.int .i64 pn]
     have hbA := HBx.out.alloc HBx.out.size (.cells #[.int .i64 pn] 3)
     have HOa := Lib.hid (HOx.out.below ((Below.refl _ wc).alloc (Nat.le_refl _) (.cells #[.int .i64 pn] 3)) (Nat.le_refl _))
     have hsa := hbA.size
     have HBA := Lib.hid hbA
     clear hbA
     go_wp2_with (at_builtin; refine wpList_append_any rfl (.tmp 42) (.tmp 44) 26 rfl w1.heap.size 3 (.int .i64 0) 8 Tryz.underlying26 info_int rfl _ _ rfl HOa.out (wc.heap.size + 1) (some ⟨wc.heap.size, 0, none⟩) 1 1 [.int .i64 pn] rfl rfl (hrdw.more (by simp)) (by simp [Value.oneCell']) (by rw [List.length_map]; unfold maxLen; omega) (by rw [List.length_map]; omega) hsa ?_; intro v2 w3 hov2 hg2 hf2; have HB3 := Lib.hid (HBA.out.grown hg2 hsa (fun k hk => (HOa.out.lt k hk).1)); have HO3 := Lib.hid hov2; clear hov2 hg2 hf2)
     go_roundw
     case rel => exact ⟨k + 1, by omega, by go_num, by rw [HU.out, List.map_append]; exact HO3, HB3⟩
     case measure => simp [intOf]; omega
    ·obtain rfl : B = false := by simpa using hBt
     have hP := of_decide_eq_false HBB.out.symm
     have HU := Lib.hid (show idxU ((es.map (·.1)).take (k + 1)) = idxU ((es.map (·.1)).take k) by
      rw [HTK.out]
      unfold idxU
      rw [List.filterMap_append, List.filterMap_cons, HI.out, if_neg hP]
      simp)
     clear hP
     go_wp2_with fail
     go_roundw
     case rel => exact ⟨k + 1, by omega, by go_num, by rw [HU.out]; exact HOx, HBx⟩
     case measure => simp [intOf]; omega
  ·obtain rfl : k = es.length := by omega
   rw [List.take_of_length_le (by rw [List.length_map]; exact Nat.le_refl _)] at HO
   have hul : (idxU (es.map (·.1))).length ≤ 4398046511104 := by
    have h1 := List.length_filterMap_le idxOf (es.map (·.1))
    rw [List.length_map] at h1
    unfold idxU
    omega
   obtain ⟨z, hz⟩ : ∃ z, z = idxU (es.map (·.1)) := ⟨_, rfl⟩
   have hzL : idxL (es.map (·.1)) = z.mergeSort fun x y => decide (x ≤ y) := by rw [hz]; rfl
   have HZL := Lib.hid hzL
   clear hzL
   rw [← hz] at HO hul
   clear hz
   have hml : (z.mergeSort fun x y => decide (x ≤ y)).length = z.length := List.length_mergeSort z
   have hbF := HB1.out.trans (HB.out.mono hs1)
   rcases HO.out.2 with ⟨hv0, h0⟩ | ⟨gz, cap, cur, hv, hgb, hgh, hcl, hcm, hcs, hct⟩
   ·rw [hv0]
    rw [List.length_map] at h0
    obtain rfl : z = [] := List.eq_nil_of_length_eq_zero h0
    have HF := Lib.hid hbF
    clear hbF
    go_wp2_with (go_at_call 67; refine (Tryz.slices_Sort_int_none _ _ _).mono ?_; rintro e w3 ⟨rfl, rfl⟩)
    go_ret
    refine ⟨_, rfl, ?_, HF.out⟩
    rw [HZL.out, List.mergeSort_nil]
    exact Own.nil _ _ _
   ·rw [List.length_map] at hv hcl
    rw [hv]
    have hgl : gz < wr.heap.size := (Array.getElem?_eq_some_iff.1 hgh).1
    have hH : Holds (Value.int .i64) wr gz 0 z.toArray := holds_of_blockI hgh (by rw [List.length_map, Nat.mul_one] at hct; exact hct)
    have HCON := (Tryz.slices_Sort_int gz 0 cap z wr hH hgl (by omega)).mono (R' := fun e w3 => e = .returned (.tuple #[]) ∧ wr.grownBy w3 (some gz) ∧ Own w3 w.heap.size 3 (.slice (some ⟨gz, 0, none⟩) z.length cap) ((z.mergeSort fun x y => decide (x ≤ y)).map (Value.int .i64))) (by
     rintro e w3 ⟨rfl, nn, os, rfl⟩
     refine ⟨rfl, grownBy_sortedI _, ?_⟩
     have := ownsRow_sortedI (w := wr) (base := w.heap.size) (g := gz) (cap := cap) (n := nn) (os := os) (cur := cur) (ss := z) hml (by omega) hgh hcl hcm hcs
     unfold Own
     rw [List.length_map, hml]
     exact this)
    have HCON2 := Lib.hid HCON
    clear HCON
    have HF := Lib.hid hbF
    have hs2 := hbF.size
    clear hbF hH hgh hct
    go_wp2_with fail
    refine HCON2.out.mono ?_
    rintro e w3 ⟨rfl, hgS, hoS⟩
    have HGS := Lib.hid hgS
    have HOS := Lib.hid hoS
    clear hgS hoS hv
    go_wp2_with fail
    go_ret
    refine ⟨_, rfl, ?_, HF.out.grown HGS.out hs2 (fun k hk => by cases hk; omega)⟩
    rw [HZL.out]
    exact HOS.out
end Go.Proofs.YteehkcpokgeipaaGreatDoor
set_option linter.unusedVariables false
set_option linter.unusedSimpArgs false
namespace Go.Proofs.YteehkcpokgeipaaGreatDoor
open Go.RowKit Go.Maps Go.Sort Oct
set_option maxHeartbeats 1000000 in
theorem rkname_any (n : Int) (hn : -9223372036854775808 ≤ n ∧ n ≤ 9223372036854775807) (w : World) :
  Calls Tryz.prog 78 #[.int .i64 n] w fun e w' => e = .returned (.string (str (sName n))) ∧ Below w.heap.size w w' := by
 have HT := Lib.hid (rtext_any n hn w)
 have hsz : (str (Lib.itoa n)).size ≤ 21 := by
  have := Lib.itoa_length_le n hn.1 hn.2
  show (Lib.itoa n).toArray.size ≤ 21
  simpa using this
 clear hn
 go_enter Tryz.func78, Tryz.ntmps78
 go_wp2_with fail
 refine HT.out.mono ?_
 rintro e w' ⟨rfl, hb⟩
 have HB := Lib.hid hb
 clear hb HT
 go_wp2_with fail
 go_ret
 refine ⟨?_, HB.out⟩
 have e : (⟨#[115]⟩ : ByteArray) ++ str (Lib.itoa n) = str (sName n) := by
  apply WideShapes.bytes_inj
  simp [str, sName]
 rw [← e]
 rfl
theorem parse_nil : (parseS []).2.2 = 3 := by decide +kernel
set_option maxHeartbeats 2000000 in
set_option maxRecDepth 100000 in
theorem rnumber_any (nm : Nm) (hl : nm.length ≤ 1000) (w : World) :
  Calls Tryz.prog 120 #[.string (str nm)] w fun e w' => ∃ v : Int, e = .returned (.int .i64 v) ∧ w = w' ∧ ((0 ≤ v ∧ idxOf nm = some v) ∨ (v < 0 ∧ idxOf nm = none)) := by
 obtain ⟨s, hs⟩ : ∃ s, s = str nm := ⟨_, rfl⟩
 have hsz : s.size = nm.length := by rw [hs]; exact str_size nm
 have hsd : s.data.toList = nm := by rw [hs]; rfl
 rw [← hs]
 by_cases h2 : s.size < 2
 ·have hi : idxOf nm = none := by
   match nm, hsz with
   | [], _ => rfl
   | [c], _ =>
    exact if_neg (fun h => by rw [parse_nil] at h; exact absurd h.2.1 (by decide))
   | c :: d :: r, hsz => simp at hsz; omega
  have h2I : (s.size : Int) < 2 := by omega
  have HI := Lib.hid hi
  clear hi hs hsd hsz
  go_enter Tryz.func120, Tryz.ntmps120
  go_wp2_with fail
  go_ret
  exact ⟨-1, rfl, rfl, .inr ⟨by omega, HI.out⟩⟩
 ·obtain ⟨ch, r, rfl⟩ : ∃ ch r, nm = ch :: r := by
   cases nm with
   | nil => rw [List.length_nil] at hsz; omega
   | cons c r => exact ⟨c, r, rfl⟩
  have hrl : s.size = r.length + 1 := by rw [hsz]; simp
  have hr1000 : r.length ≤ 1000 := by simp at hl; omega
  have hpos : 1 ≤ s.size := by omega
  have hex : (s.extract 1 s.size).data.toList = r := by
   rw [ByteArray.data_extract, Array.toList_extract, hsd, hrl]
   simp
  have hs0 : s[0]'hpos = ch := by
   have : s.data.toList[0]'(by rw [hsd]; simp) = ch := by simp [hsd]
   rw [Array.getElem_toList] at this
   exact this
  have h2I : ¬ (s.size : Int) < 2 := by omega
  have HP := Lib.hid (rparse_any (s.extract 1 s.size) (by show (s.extract 1 s.size).data.size ≤ _; rw [← Array.length_toList, hex]; omega) w)
  rw [hex] at HP
  have hI : idxOf (ch :: r) = if ch = 115 ∧ (parseS r).2.2 = 0 ∧ ((parseS r).2.1 : Int) = (r.length : Int) ∧ outB (parseS r).1 = false then some (parseS r).1 else none := rfl
  obtain ⟨pn, hpn⟩ : ∃ pn, pn = (parseS r).1 := ⟨_, rfl⟩
  obtain ⟨pu, hpu⟩ : ∃ pn, pn = (parseS r).2.1 := ⟨_, rfl⟩
  obtain ⟨pe, hpe⟩ : ∃ pn, pn = (parseS r).2.2 := ⟨_, rfl⟩
  rw [← hpn, ← hpu, ← hpe] at HP hI
  have HI := Lib.hid hI
  have hsI : (s.size : Int) = r.length + 1 := by omega
  have HSI := Lib.hid hsI
  have hsle : s.size ≤ 1001 := by omega
  have hwr : IntKind.i64.wrap ((s.size : Int) - 1) = (s.size : Int) - 1 := IntWalk.i64_in _ (by omega)
  have hch : (s[0].toNat : Int) = 115 ↔ ch = 115 := by
   rw [hs0]
   constructor
   ·intro e
    refine UInt8.toNat_inj.1 ?_
    show ch.toNat = 115
    omega
   ·rintro rfl
    rfl
  have HCH := Lib.hid hch
  clear hI hs hsd hsz hrl hex hs0 hpn hpu hpe hsI hch hl
  by_cases h1 : (s[0].toNat : Int) = 115
  ·have hc := Lib.hid (HCH.out.1 h1)
   by_cases h3 : pe = 0
   ·subst h3
    by_cases h4 : (pu : Int) = (s.size : Int) - 1
    ·have h4' := Lib.hid (show (pu : Int) = (r.length : Int) by have := HSI.out; omega)
     by_cases h5 : pn > 1099511627776
     ·go_enter Tryz.func120, Tryz.ntmps120
      go_wp2_with fail
      refine HP.out.mono ?_
      rintro e w' ⟨rfl, rfl⟩
      go_wp2_with fail
      go_ret
      refine ⟨-1, rfl, rfl, .inr ⟨by omega, ?_⟩⟩
      rw [HI.out, if_neg (fun h => by have h9 := h.2.2.2; simp [outB] at h9; omega)]
     ·go_enter Tryz.func120, Tryz.ntmps120
      go_wp2_with fail
      refine HP.out.mono ?_
      rintro e w' ⟨rfl, rfl⟩
      go_wp2_with fail
      go_ret
      refine ⟨pn, rfl, rfl, ?_⟩
      rw [HI.out]
      by_cases h6 : pn < 0
      ·exact .inr ⟨h6, by rw [if_neg (fun h => by have h9 := h.2.2.2; simp [outB] at h9; omega)]⟩
      ·exact .inl ⟨by omega, by rw [if_pos ⟨hc.out, trivial, h4'.out, by simp [outB]; omega⟩]⟩
    ·have h4' := Lib.hid (show ¬ (pu : Int) = (r.length : Int) by have := HSI.out; omega)
     go_enter Tryz.func120, Tryz.ntmps120
     go_wp2_with fail
     refine HP.out.mono ?_
     rintro e w' ⟨rfl, rfl⟩
     go_wp2_with fail
     go_ret
     refine ⟨-1, rfl, rfl, .inr ⟨by omega, ?_⟩⟩
     rw [HI.out, if_neg (fun h => h4'.out h.2.2.1)]
   ·go_enter Tryz.func120, Tryz.ntmps120
    go_wp2_with fail
    refine HP.out.mono ?_
    rintro e w' ⟨rfl, rfl⟩
    go_wp2_with fail
    go_ret
    refine ⟨-1, rfl, rfl, .inr ⟨by omega, ?_⟩⟩
    rw [HI.out, if_neg (fun h => h3 h.2.1)]
  ·have hc := Lib.hid (fun h => h1 (HCH.out.2 h))
   go_enter Tryz.func120, Tryz.ntmps120
   go_wp2_with fail
   go_ret
   refine ⟨-1, rfl, rfl, .inr ⟨by omega, ?_⟩⟩
   rw [HI.out, if_neg (fun h => hc.out h.1)]
end Go.Proofs.YteehkcpokgeipaaGreatDoor
