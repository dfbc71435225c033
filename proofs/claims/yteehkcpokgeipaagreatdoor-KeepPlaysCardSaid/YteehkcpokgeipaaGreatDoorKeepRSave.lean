/- pavaneref23.Save, against the plain form of keep.Save. Condition: the disk is a call's own, and within bounds. -/
import Derived.Test.YteehkcpokgeipaaGreatDoorKeepTwoR
import Derived.Test.YteehkcpokgeipaaGreatDoorKeepROpen
import Derived.Test.YteehkcpokgeipaaGreatDoorKeepList
import Derived.Test.YteehkcpokgeipaaGreatDoorRDiskApp
import Derived.Test.YteehkcpokgeipaaGreatDoorRDiskBoot
set_option linter.unusedVariables false
set_option linter.unusedSimpArgs false
namespace Go.Proofs.YteehkcpokgeipaaGreatDoor
open Go.RowKit Go.Maps Go.Sort Go.Shelf Oct
section
variable {w wr : World} {base g : Nat} {vL : Value} {es : List (Nm × RF)} {d : DkD}
theorem dk_eq {es' : List (Nm × RF)} (h : sec RF.f es' = d.fs) : rkOf d.pw d.room es' = d := by
 unfold rkOf
 rw [h]
theorem rto_remove (h : RTo w base g vL es d wr) (n : Nm) (hl : d.fs.length ≤ 549755813888) :
  Calls Tryz.prog 44 #[.pointer (some ⟨g, 0, none⟩), .string (str n)] wr fun e w' => e = .returned (.int .i64 (d.remove n).1) ∧ RTo w base g vL es (d.remove n).2 w' := by
 obtain ⟨vL', es', h1, h2, h3, h4⟩ := h
 have hle : es'.length ≤ 549755813888 := by have := congrArg List.length h2; simp only [sec, List.length_map] at this; omega
 refine (rremove_any h1 n (by omega)).mono ?_
 rintro e w' ⟨k1, k2⟩
 rw [dk_eq h2] at k1 k2
 exact ⟨k1, RTo.trans h3 h4 k2⟩
theorem rto_sync (h : RTo w base g vL es d wr) (n : Nm) (hl : d.fs.length ≤ 549755813888) :
  Calls Tryz.prog 76 #[.pointer (some ⟨g, 0, none⟩), .string (str n)] wr fun e w' => e = .returned (.int .i64 (d.sync n).1) ∧ RTo w base g vL es (d.sync n).2 w' := by
 obtain ⟨vL', es', h1, h2, h3, h4⟩ := h
 have hle : es'.length ≤ 549755813888 := by have := congrArg List.length h2; simp only [sec, List.length_map] at this; omega
 refine (rsync_any h1 n (by omega)).mono ?_
 rintro e w' ⟨k1, k2⟩
 rw [dk_eq h2] at k1 k2
 exact ⟨k1, RTo.trans h3 h4 k2⟩
theorem rto_rename (h : RTo w base g vL es d wr) (n tn : Nm) (htn : tn.length ≤ 140737488351232) (hl : d.fs.length ≤ 549755813888) :
  Calls Tryz.prog 77 #[.pointer (some ⟨g, 0, none⟩), .string (str n), .string (str tn)] wr fun e w' => e = .returned (.int .i64 (d.rename n tn).1) ∧ RTo w base g vL es (d.rename n tn).2 w' := by
 obtain ⟨vL', es', h1, h2, h3, h4⟩ := h
 have hle : es'.length ≤ 549755813888 := by have := congrArg List.length h2; simp only [sec, List.length_map] at this; omega
 refine (rrename_any h1 n tn htn (by omega)).mono ?_
 rintro e w' ⟨k1, k2⟩
 rw [dk_eq h2] at k1 k2
 exact ⟨k1, RTo.trans h3 h4 k2⟩
theorem rto_list (h : RTo w base g vL es d wr) (hl : d.fs.length ≤ 549755813888) (hn : ∀ q ∈ d.fs, q.1.length ≤ 1000) :
  Calls Tryz.prog 79 #[.pointer (some ⟨g, 0, none⟩)] wr fun e w' => ∃ v, e = .returned v ∧ Own w' wr.heap.size 3 v ((idxL (d.fs.map (·.1))).map (Value.int .i64)) ∧ Below wr.heap.size wr w' := by
 obtain ⟨vL', es', h1, h2, h3, h4⟩ := h
 have hle : es'.length ≤ 549755813888 := by have := congrArg List.length h2; simp only [sec, List.length_map] at this; omega
 have hnm : es'.map (·.1) = d.fs.map (·.1) := by rw [← h2]; simp [sec]
 rw [← hnm]
 exact rlist_any h1 (by omega) (fun q hq => hn (q.1, q.2.f) (by rw [← h2]; exact List.mem_map.2 ⟨q, hq, rfl⟩))
theorem rto_append (h : RTo w base g vL es d wr) {N : Nat} (hok : DOk N d) (hN : N ≤ 500000) (n : Nm) (hn : n.length ≤ 140737488351232) (A : Option Addr) (q : Row) (c : Nat) (hrd : Rd wr wr.heap.size A [q.val]) (hp : Rd wr wr.heap.size q.a (cells q.l)) (hc : 1 ≤ c) (hfl : q.l.length ≤ 274877906944) :
  Calls Tryz.prog 41 #[.pointer (some ⟨g, 0, none⟩), .string (str n), .slice A 1 c] wr fun e w' => e = .returned (.int .i64 (d.append n [q.l]).1) ∧ RTo w base g vL es (d.append n [q.l]).2 w' := by
 obtain ⟨vL', es', h1, h2, h3, h4⟩ := h
 have hle : es'.length ≤ 549755813888 := by have := congrArg List.length h2; have := hok.len; simp only [sec, List.length_map] at *; omega
 have hsz : sizes (sec RF.f es') ≤ 549755813888 := by rw [h2]; have := hok.sz; omega
 refine (rappend_any h1 n hn A [q] c hrd (fun p hp' => by rw [List.mem_singleton.1 hp']; exact ⟨hp, by omega⟩) hc (by simp) (by simpa [flat] using hfl) (fun p hp' => ?_) (by omega) hle).mono ?_
 ·have := sizes_mem (q := (p.1, p.2.f)) (l := sec RF.f es') (List.mem_map.2 ⟨p, hp', rfl⟩)
  simp only at this
  omega
 ·rintro e w' ⟨k1, k2⟩
  rw [dk_eq h2] at k1 k2
  exact ⟨k1, RTo.trans h3 h4 k2⟩
end
set_option maxHeartbeats 8000000 in
set_option maxRecDepth 100000 in
theorem rsave_any {w : World} {base g : Nat} {p : PWD} {room : Int} {vL : Value} {es : List (Nm × RF)} (h : RDiskAt w base g p room vL es) {N : Nat} (hok : DOk N (rkOf p room es)) (hN : N ≤ 400000)
  (i t : Int) (Av Ad : Option Addr) (z : List Int) (l : List UInt8) (nv cv nd cd : Nat) (hv : nv = z.length) (hd : nd = l.length) (hr : Rd w w.heap.size Av (z.map (Value.int .i64))) (hr2 : Rd w w.heap.size Ad (cells l))
  (hz : ∀ n ∈ z, -9223372036854775808 ≤ n ∧ n ≤ 9223372036854775807) (hl : z.length ≤ 140737488351232) (hl2 : l.length ≤ 4611686018427387904) (hi : -9223372036854775808 ≤ i ∧ i ≤ 9223372036854775807) (hL : (snapS i t z l).length ≤ 1100000) :
  Calls Tryz.prog 31 #[.pointer (some ⟨g, 0, none⟩), snapV i t Av nv cv Ad nd cd] w fun e w' => e = .returned (.int .i64 (saveD (rkOf p room es) i (snapE i t z l) (fileL (snapS i t z l))).1) ∧ RTo w base g vL es (saveD (rkOf p room es) i (snapE i t z l) (fileL (snapS i t z l))).2 w' := by
 obtain ⟨wA, hwA⟩ : ∃ wA, wA = w.alloc (.cells #[.int .i64 i, .int .i64 t, .slice Av z.length cv, .slice Ad l.length cd] 29) := ⟨_, rfl⟩
 have hbA : Below w.heap.size w wA := by rw [hwA]; exact (Below.refl _ w).alloc (Nat.le_refl _) _
 have hKA : Blk wA w.heap.size 29 #[.int .i64 i, .int .i64 t, .slice Av z.length cv, .slice Ad l.length cd] := by rw [hwA]; exact Blk.new w 29 _
 subst hv; subst hd
 have hDA := h.below hbA
 have hsA : w.heap.size < wA.heap.size := hKA.lt
 obtain ⟨R, hR⟩ : ∃ R, R = saveD (rkOf p room es) i (snapE i t z l) (fileL (snapS i t z l)) := ⟨_, rfl⟩
 rw [← hR]
 have HR := Lib.hid hR
 have HD := Lib.hid hDA
 have HOK := Lib.hid hok
 have HBA := Lib.hid hbA
 have HWA := Lib.hid hwA
 obtain ⟨x, y, hb, _⟩ := hDA.blk
 have c2 : wA.cell? ⟨g, 2, none⟩ = some (.bool p.off) := hb.cell 2
 have s0 : wA.cell? ⟨w.heap.size, 0, none⟩ = some (.int .i64 i) := hKA.cell 0
 have s1 : wA.cell? ⟨w.heap.size, 1, none⟩ = some (.int .i64 t) := hKA.cell 1
 have s2 : wA.cell? ⟨w.heap.size, 2, none⟩ = some (.slice Av z.length cv) := hKA.cell 2
 have s3 : wA.cell? ⟨w.heap.size, 3, none⟩ = some (.slice Ad l.length cd) := hKA.cell 3
 have HKA := Lib.hid hKA
 have HBY := Lib.hid (rbytes_any i t Av Ad z l _ cv _ cd rfl rfl wA ((hr.below hbA).more (by omega)) ((hr2.below hbA).more (by omega)) hz hl hl2)
 have HLT0 := Lib.hid (fun k hk => (h.lt k hk).2)
 clear h hok hr hr2 hR hDA hbA hwA hb hKA
 unfold snapV
 by_cases ho : p.off = true
 ·have e : R = (50, rkOf p room es) := by rw [HR.out]; unfold saveD; rw [if_pos ho]
  rw [e]
  rw [ho] at c2
  clear e
  go_enter Tryz.func31, Tryz.ntmps31
  go_upto_region 1 with (fail)
  rw [← HWA.out]
  go_wp2_with fail
  go_ret
  exact ⟨rfl, RTo.mk' HD.out (Fr.of_below _ HBA.out)⟩
 ·have ho' : p.off = false := by simpa using ho
  rw [ho'] at c2
  by_cases hE : snapE i t z l = 0
  ·have HBY' : Hid (Calls Tryz.prog 72 #[.agg #[.int .i64 i, .int .i64 t, .slice Av z.length cv, .slice Ad l.length cd]] wA fun e w' => ∃ v, e = .returned (.tuple #[v, .int .i64 0]) ∧ Bs w' wA.heap.size v (snapS i t z l) ∧ Below wA.heap.size wA w') := by
    rw [hE] at HBY
    exact HBY
   obtain ⟨B, hB⟩ : ∃ B, B = snapS i t z l := ⟨_, rfl⟩
   rw [hE, ← hB] at HR
   rw [← hB] at HBY' hL
   clear HBY hE hB
   have HNU := Lib.hid hz
   clear hz
   go_enter Tryz.func31, Tryz.ntmps31
   go_upto_region 1 with (fail)
   rw [← HWA.out]
   go_wp2_with fail
   refine HBY'.out.mono ?_
   rintro e w2 ⟨v2, rfl, hv2, hb2⟩
   obtain ⟨A2, cb, rfl, hcb1, hcb2, hr2⟩ := bs_shape hv2
   have HFI := Lib.hid (rkfile_any A2 B cb w2 hr2 hcb1 (by omega) (by omega))
   have HB2 := Lib.hid hb2
   have hs2 := hb2.size
   clear hv2 hb2 HBY' hr2
   go_wp2_with fail
   refine HFI.out.mono ?_
   rintro e w3 ⟨v3, xs, rfl, hg3, hb3⟩
   obtain ⟨A3, c3, rfl, hc3a, hc3b, hr3⟩ := hg3.own.shape
   have hx3 : xs.length = (fileL B).length := hg3.len
   have hrl : (fileL B).length ≤ 3000 := by rw [fileL_len]; omega
   obtain ⟨rows, hrows⟩ : ∃ rows, rows = fileL B := ⟨_, rfl⟩
   have hrow : ∀ r ∈ rows, r.length ≤ 1048616 := fun r hr => by rw [hrows] at hr; exact fileL_row hr
   rw [← hrows] at hx3 hrl hg3 HR
   have HB3 := Lib.hid (HB2.out.trans (hb3.mono hs2))
   have hs3 := HB3.out.size
   have HG3 := Lib.hid hg3
   have HR3 := Lib.hid hr3
   have HX3 := Lib.hid hx3
   have HROW := Lib.hid hrow
   have hxl : xs.length ≤ 3000 := by omega
   have HGR : Hid (∀ k (hk : k < xs.length) (hk2 : k < rows.length), ∃ a c, xs[k] = .slice a rows[k].length c ∧ Rd w3 w3.heap.size a (cells rows[k]) ∧ ∀ ad, a = some ad → w2.heap.size ≤ ad.block ∧ ad.block < w3.heap.size) := Lib.hid (fun k hk hk2 => by
    have hg := HG3.out.got k hk hk2
    obtain ⟨a, c, h1, _, _, h2⟩ := hg.shape
    refine ⟨a, c, h1, h2, fun ad e => ⟨hg.row.base ad.block (by rw [h1, e]; rfl), hg.row.lt ad.block (by rw [h1, e]; rfl)⟩⟩)
   clear hg3 hb3 hr3 hx3 hrows hrow HFI
   go_wp2_with fail
   go_loopw [8, 9] (fun sm n wr => ∃ k : Nat, k ≤ xs.length ∧ n = .int .i64 k ∧ sm = .int .i64 (sumL (rows.take k)) ∧ Hid (w3 = wr)) (fun _ n _ => xs.length - (intOf n).toNat)
   case atStart => exact ⟨0, by omega, rfl, by simp [sumL], Lib.hid rfl⟩
   case round =>
    obtain ⟨k, hk, rfl, rfl, HW⟩ := hrel
    obtain rfl := HW.out
    have hsum := sumL_le HROW.out k
    by_cases hlt : k < xs.length
    ·have hlt2 : k < rows.length := by rw [← HX3.out]; exact hlt
     obtain ⟨ad, rfl, had, hcell⟩ := HR3.out.at_ hlt
     obtain ⟨ak, ck, hxk, _⟩ := HGR.out k hlt hlt2
     rw [hxk] at hcell
     have hkb := HROW.out _ (List.getElem_mem hlt2)
     have HST := Lib.hid (sumL_take hlt2)
     generalize rows[k] = rk at hcell hkb HST
     clear hxk
     go_wp2_with fail
     go_roundw
     case rel => exact ⟨k + 1, by omega, by go_num, by rw [HST.out], Lib.hid trivial⟩
     case measure => simp [intOf]; omega
    ·have hke : rows.take k = rows := List.take_of_length_le (by rw [← HX3.out]; omega)
     rw [hke] at hsum ⊢
     have hD3 := HD.out.below HB3.out
     have HRE := Lib.hid (rdread_any hD3 newN (by have := HOK.out.len; simp only [sec, List.length_map] at this; omega) (fun q hq => by
      have h1 := sizes_mem (q := (q.1, q.2.f)) (l := sec RF.f es) (List.mem_map.2 ⟨q, hq, rfl⟩)
      have h2 := HOK.out.sz
      simp only at h1 h2
      omega))
     have HL := Lib.hid (show es.length ≤ 1000000000 by have := HOK.out.len; simp only [sec, List.length_map] at this; omega)
     have HSZ := Lib.hid (show sizes (sec RF.f es) ≤ 549755813888 by have := HOK.out.sz; simp only at *; omega)
     have hrm : 0 ≤ room ∧ room ≤ 9223372036854775807 := HD.out.num.2
     have HD3 := Lib.hid hD3
     clear hke hD3
     go_wp2_with fail
     refine (show Calls Tryz.prog 74 #[.pointer (some ⟨g, 0, none⟩), .string ⟨#[115, 46, 110, 101, 119]⟩] w3 _ from HRE.out).mono ?_
     rintro e w4 ⟨v4, rfl, hg4, hb4⟩
     obtain ⟨A4, c4, rfl, _, _, _⟩ := hg4.shape
     obtain ⟨old, hold⟩ : ∃ old, old = ((rkOf p room es).read newN).1 := ⟨_, rfl⟩
     obtain ⟨rc, hrc⟩ : ∃ rc, rc = ((rkOf p room es).read newN).2 := ⟨_, rfl⟩
     rw [← hold, ← hrc]
     have hsn := sizes_nonneg (sec RF.f es)
     have holdl : (old.length : Int) ≤ sizes (sec RF.f es) := by
      rw [hold]
      unfold DkD.read
      split
      ·simpa using hsn
      ·split
       ·simpa using hsn
       ·rename_i f hf
        have h1 := sizes_mem (asGet_some hf)
        simp only at h1 ⊢
        omega
     have HB4 := Lib.hid hb4
     have HFR := Lib.hid (rfree_any (HD3.out.below hb4) (by have := HSZ.out; omega) (by have := HL.out; omega))
     have HOLD := Lib.hid hold
     have HRC := Lib.hid hrc
     clear hg4 hb4 HRE hold hrc
     obtain ⟨hrm0, hrm⟩ := hrm
     have hsz9 := HSZ.out
     go_wp2_with fail
     refine HFR.out.mono ?_
     rintro e w' ⟨rfl, rfl⟩
     clear HFR
     have hBw : Below w.heap.size w w4 := (HBA.out.trans (HB3.out.mono (by omega))).trans (HB4.out.mono (by have := HBA.out.size; omega))
     have hD4 := (HD.out.below HB3.out).below HB4.out
     have HBW := Lib.hid hBw
     have HD4 := Lib.hid hD4
     clear hBw hD4
     by_cases hroom : room - sizes (sec RF.f es) + (old.length : Int) < sumL rows
     ·have e : R = (52, rkOf p room es) := by
       rw [HR.out]
       unfold saveD
       rw [if_neg ho, if_neg (by simp), if_pos (show (rkOf p room es).free + (((rkOf p room es).read newN).1.length : Int) < sumL rows by rw [← HOLD.out]; exact hroom)]
      have HE := Lib.hid e
      clear e
      go_wp2_with fail
      go_ret
      rw [HE.out]
      exact ⟨rfl, RTo.mk' HD4.out (Fr.of_below _ HBW.out)⟩
     ·have HR2 : Hid (R = if (runS (actsL (rkOf p room es) i rows) (rkOf p room es)).1 = 0 then tailS (runS (actsL (rkOf p room es) i rows) (rkOf p room es)).2 else runS (actsL (rkOf p room es) i rows) (rkOf p room es)) := Lib.hid (by
       rw [HR.out]
       unfold saveD
       rw [if_neg ho, if_neg (by simp), if_neg (show ¬ (rkOf p room es).free + (((rkOf p room es).read newN).1.length : Int) < sumL rows by rw [← HOLD.out]; exact hroom)])
      have HT4 : Hid (RTo w4 base g vL es (rkOf p room es) w4) := Lib.hid (RTo.mk' HD4.out (Fr.refl _ _))
      have HAC : Hid (actsL (rkOf p room es) i rows = (if rc = 0 then [.rm] else []) ++ (rows.map .app ++ [.sync, .ren i])) := Lib.hid (by unfold actsL; rw [← HRC.out, List.append_assoc])
      clear HR
      go_upto_if 55 with (fail)
      go_cut [6] from 54 to 57 (fun c wx => ∃ (ev : Int) (d : DkD), c = .int .i64 ev ∧ Hid (RTo w4 base g vL es d wx) ∧ Hid (DOk (N + 1) d) ∧ Hid (runS (actsL (rkOf p room es) i rows) (rkOf p room es) = if ev = 0 then runS (rows.map .app ++ [.sync, .ren i]) d else (ev, d)))
      case first =>
       by_cases hrc : rc = 0
       ·have HRM := Lib.hid (rto_remove HT4.out newN (by have := HL.out; simp only [sec, List.length_map]; omega))
        have hac : runS (actsL (rkOf p room es) i rows) (rkOf p room es) = if ((rkOf p room es).remove newN).1 = 0 then runS (rows.map .app ++ [.sync, .ren i]) ((rkOf p room es).remove newN).2 else (((rkOf p room es).remove newN).1, ((rkOf p room es).remove newN).2) := by
         rw [HAC.out, if_pos hrc]
         show runS (SAct.rm :: (rows.map .app ++ [.sync, .ren i])) _ = _
         rw [runS]
         rfl
        have hok2 := HOK.out.remove newN
        obtain ⟨X, hX⟩ : ∃ X, X = (rkOf p room es).remove newN := ⟨_, rfl⟩
        rw [← hX] at HRM hac hok2
        have HAC2 := Lib.hid hac
        have HOK2 := Lib.hid (hok2.mono (N' := N + 1) (by omega))
        subst hrc
        clear hac hok2 hX
        go_wp2_with fail
        refine (show Calls Tryz.prog 44 #[.pointer (some ⟨g, 0, none⟩), .string ⟨#[115, 46, 110, 101, 119]⟩] w4 _ from HRM.out).mono ?_
        rintro e w5 ⟨rfl, hT5⟩
        have HT5 := Lib.hid hT5
        clear hT5 HRM
        go_wp2_with fail
        go_meet
        exact ⟨X.1, X.2, rfl, HT5, HOK2, HAC2⟩
       ·have HAC2 : Hid (runS (actsL (rkOf p room es) i rows) (rkOf p room es) = if (0 : Int) = 0 then runS (rows.map .app ++ [.sync, .ren i]) (rkOf p room es) else (0, rkOf p room es)) := Lib.hid (by
         rw [HAC.out, if_neg hrc, if_pos rfl]
         rfl)
        go_wp2_with fail
        go_meet
        exact ⟨0, rkOf p room es, rfl, HT4, Lib.hid (HOK.out.mono (by omega)), HAC2⟩
      case rest =>
       obtain ⟨ev0, d0, rfl, HT0, HK0, HRUN0⟩ := hcut
       clear HAC HRC HOLD
       go_wp2_with fail
       go_loopw [6, 12] (fun c n wr => ∃ (k : Nat) (d : DkD) (ev : Int), k ≤ xs.length ∧ n = .int .i64 k ∧ c = .int .i64 ev ∧ Hid (RTo w4 base g vL es d wr) ∧ Hid (DOk (N + 1 + k) d) ∧ Hid (runS (actsL (rkOf p room es) i rows) (rkOf p room es) = if ev = 0 then runS ((rows.drop k).map .app ++ [.sync, .ren i]) d else (ev, d))) (fun _ n _ => xs.length - (intOf n).toNat)
       case atStart => exact ⟨0, d0, ev0, by omega, rfl, rfl, HT0, HK0, HRUN0⟩
       case round =>
        obtain ⟨k2, d, ev, hk2, rfl, rfl, HT, HK, HRUN⟩ := hrel
        clear HT0 HK0 HRUN0 HT4
        by_cases hlt2 : k2 < xs.length
        ·by_cases hev : ev = 0
         ·subst hev
          have hltr : k2 < rows.length := by rw [← HX3.out]; exact hlt2
          have hfr := HT.out
          obtain ⟨_, _, _, _, hfr, _⟩ := hfr
          have hsw := hfr.size
          have hs4 := HB4.out.size
          have hs2' : wA.heap.size ≤ w2.heap.size := hs2
          have hkeep : ∀ j, w2.heap.size ≤ j → j < w3.heap.size → wr.heap[j]? = w3.heap[j]? := fun j h1 h2 => (hfr.block j (by omega) (fun hm => by have := (HD.out.lt _ hm).2; omega)).trans (HB4.out.block j h2)
          obtain ⟨ad, hA3, had, _⟩ := HR3.out.at_ hlt2
          have hado : w2.heap.size ≤ ad.block := (HG3.out.own.lt ad.block (by rw [hA3]; rfl)).1
          obtain ⟨ak, ck, hxk, hrk, hbk⟩ := HGR.out k2 hlt2 hltr
          have hrkw : Rd wr wr.heap.size ak (cells rows[k2]) := rd_block hrk (fun a e => hkeep a.block (hbk a e).1 (hbk a e).2) (by omega)
          have hrow1 : Rd wr wr.heap.size (cutA A3 k2 c3) [Row.val ⟨ak, rows[k2], ck⟩] := by
           have h1 : Rd wr wr.heap.size A3 xs := rd_block HR3.out (fun a e => by rw [hA3] at e; injection e with e; rw [← e]; exact hkeep ad.block hado had) (by omega)
           have h2 := (h1.cutA (k := k2) (by omega) hc3a).take 1
           rw [List.drop_eq_getElem_cons hlt2, hxk] at h2
           exact h2
          have hkb := HROW.out _ (List.getElem_mem hltr)
          have HAP := Lib.hid (rto_append HT.out HK.out (by omega) newN (by decide) (cutA A3 k2 c3) ⟨ak, rows[k2], ck⟩ (c3 - k2) hrow1 hrkw (by omega) (by show rows[k2].length ≤ _; omega))
          have hstep : runS (actsL (rkOf p room es) i rows) (rkOf p room es) = if (d.append newN [rows[k2]]).1 = 0 then runS ((rows.drop (k2 + 1)).map .app ++ [.sync, .ren i]) (d.append newN [rows[k2]]).2 else ((d.append newN [rows[k2]]).1, (d.append newN [rows[k2]]).2) := by
           rw [HRUN.out, if_pos rfl, List.drop_eq_getElem_cons hltr, List.map_cons, List.cons_append, runS]
           rfl
          have hok2 := SAct.ok (.app rows[k2]) (fun _ h => by cases h) (fun q h => by injection h with h; rw [← h]; exact HROW.out _ (List.getElem_mem hltr)) HK.out
          have hok3 : DOk (N + 1 + k2 + 1) (d.append newN [rows[k2]]).2 := hok2
          obtain ⟨X, hX⟩ : ∃ X, X = d.append newN [rows[k2]] := ⟨_, rfl⟩
          simp only at HAP
          rw [← hX] at HAP hstep hok3
          have HSTEP := Lib.hid hstep
          have HK2 := Lib.hid hok3
          have hcut := fun W : World => run_cut (P := Tryz.prog) Tryz.underlying54 info_bytes A3 xs.length c3 k2 (k2 + 1) (by omega) (by omega) (k2 : Int) ((k2 : Int) + 1) rfl (by omega) W
          rw [show k2 + 1 - k2 = 1 by omega] at hcut
          have hkI : (k2 : Int) < (xs.length : Int) := by omega
          clear hfr hkeep hA3 had hado hxk hrk hbk hrkw hrow1 hstep hok2 hok3 hX hkb
          go_wp2_with fail
          refine (show Calls Tryz.prog 41 #[.pointer (some ⟨g, 0, none⟩), .string ⟨#[115, 46, 110, 101, 119]⟩, .slice (cutA A3 k2 c3) 1 (c3 - k2)] wr _ from HAP.out).mono ?_
          rintro e w5 ⟨rfl, hT5⟩
          have HT5 := Lib.hid hT5
          clear hT5 HAP hcut
          go_wp2_with fail
          go_roundw
          case rel => exact ⟨k2 + 1, X.2, X.1, by omega, by go_num, rfl, HT5, HK2, HSTEP⟩
          case measure => simp [intOf]; omega
         ·have HX : Hid (runS (actsL (rkOf p room es) i rows) (rkOf p room es) = if ev = 0 then runS [.sync, .ren i] d else (ev, d)) := Lib.hid (by rw [HRUN.out, if_neg hev, if_neg hev])
          clear HRUN
          go_upto_if 76 with (fail)
          go_cut [6] from 58 to 78 (fun c wx => ∃ (ev2 : Int) (d2 : DkD), c = .int .i64 ev2 ∧ Hid (RTo w4 base g vL es d2 wx) ∧ Hid (DOk (N + 1 + k2 + 1) d2) ∧ Hid (runS (actsL (rkOf p room es) i rows) (rkOf p room es) = if ev2 = 0 then runS [.ren i] d2 else (ev2, d2)))
          case first =>
           by_cases hev2 : ev = 0
           ·exact absurd hev2 hev
           ·have HSTEP : Hid (runS (actsL (rkOf p room es) i rows) (rkOf p room es) = if ev = 0 then runS [.ren i] d else (ev, d)) := Lib.hid (by rw [HX.out, if_neg hev2, if_neg hev2])
            go_wp2_with fail
            go_meet
            exact ⟨ev, d, rfl, HT, Lib.hid (HK.out.mono (by omega)), HSTEP⟩
          case rest =>
           obtain ⟨ev2, d2, rfl, HT2, HK2, HX2⟩ := hcut
           clear HT HK HX
           go_upto_if 80 with (fail)
           go_cut [6] from 79 to 85 (fun c wx => ∃ (ev3 : Int) (d3 : DkD), c = .int .i64 ev3 ∧ Hid (RTo w4 base g vL es d3 wx) ∧ Hid (DOk (N + 1 + k2 + 1 + 1) d3) ∧ Hid (runS (actsL (rkOf p room es) i rows) (rkOf p room es) = (ev3, d3)))
           case first =>
            by_cases hev3 : ev2 = 0
            ·have hfr := HT2.out
             obtain ⟨_, _, _, _, hfr, _⟩ := hfr
             have hsw := hfr.size
             have hs4 := HB4.out.size
             have hkb : Blk wc w.heap.size 29 #[.int .i64 i, .int .i64 t, .slice Av z.length cv, .slice Ad l.length cd] := ((hfr.block w.heap.size (by omega) (fun hm => by have := HLT0.out _ hm; omega)).trans ((HB4.out.block _ (by omega)).trans (HB3.out.block _ (by omega)))).trans HKA.out
             have t0 : wc.cell? ⟨w.heap.size, 0, none⟩ = some (.int .i64 i) := hkb.cell 0
             have HNA := Lib.hid (rkname_any i hi wc)
             have hsl := sName_len i hi
             have hstep : runS (actsL (rkOf p room es) i rows) (rkOf p room es) = ((d2.rename newN (sName i)).1, (d2.rename newN (sName i)).2) := by
              rw [HX2.out, if_pos hev3, runS]
              show (if (d2.rename newN (sName i)).1 = 0 then runS [] (d2.rename newN (sName i)).2 else d2.rename newN (sName i)) = d2.rename newN (sName i)
              split
              ·rename_i h0
               rw [runS, ← h0]
              ·rfl
             have hok3 : DOk (N + 1 + k2 + 1 + 1) (d2.rename newN (sName i)).2 := SAct.ok (.ren i) (fun i' h => by injection h with h; rw [← h]; exact hi) (fun _ h => by cases h) HK2.out
             have HRN : Hid (∀ W, Below wc.heap.size wc W → Calls Tryz.prog 77 #[.pointer (some ⟨g, 0, none⟩), .string (str newN), .string (str (sName i))] W fun e w' => e = .returned (.int .i64 (d2.rename newN (sName i)).1) ∧ RTo w4 base g vL es (d2.rename newN (sName i)).2 w') := Lib.hid (fun W hb => rto_rename (HT2.out.below hb) newN (sName i) (by omega) (by have := HK2.out.len; omega))
             obtain ⟨X, hX⟩ : ∃ X, X = d2.rename newN (sName i) := ⟨_, rfl⟩
             rw [← hX] at HRN hstep hok3
             have HSTEP := Lib.hid hstep
             have HK3 := Lib.hid hok3
             subst hev3
             clear hstep hok3 hX hkb hfr
             go_wp2_with fail
             refine HNA.out.mono ?_
             rintro e w5 ⟨rfl, hb5⟩
             have HB5 := Lib.hid hb5
             clear hb5 HNA
             go_wp2_with fail
             refine (show Calls Tryz.prog 77 #[.pointer (some ⟨g, 0, none⟩), .string ⟨#[115, 46, 110, 101, 119]⟩, .string (str (sName i))] w5 _ from HRN.out w5 HB5.out).mono ?_
             rintro e w6 ⟨rfl, hT6⟩
             have HT6 := Lib.hid hT6
             clear hT6 HRN
             go_wp2_with fail
             go_meet
             exact ⟨X.1, X.2, rfl, HT6, HK3, HSTEP⟩
            ·have HSTEP : Hid (runS (actsL (rkOf p room es) i rows) (rkOf p room es) = (ev2, d2)) := Lib.hid (by rw [HX2.out, if_neg hev3])
             go_wp2_with fail
             go_meet
             exact ⟨ev2, d2, rfl, HT2, Lib.hid (HK2.out.mono (by omega)), HSTEP⟩
           case rest =>
            obtain ⟨ev3, d3, rfl, HT3, HK3, HX3⟩ := hcut
            clear HT2 HK2 HX2
            have hR3 : R = if ev3 = 0 then tailS d3 else (ev3, d3) := by rw [HR2.out, HX3.out]
            have HLI := Lib.hid (rto_list HT3.out (by have := HK3.out.len; omega) (fun q hq => (HK3.out.nm q hq).2))
            obtain ⟨L, hL9⟩ : ∃ L, L = idxL (d3.fs.map (·.1)) := ⟨_, rfl⟩
            have hLm : ∀ n ∈ L, 0 ≤ n ∧ n ≤ 1099511627776 := fun n hn => by rw [hL9] at hn; exact idxL_mem hn
            have hLl : L.length ≤ 1000010000 := by rw [hL9]; have h1 := idxL_len (d3.fs.map (·.1)); rw [List.length_map] at h1; have := HK3.out.len; omega
            have hR4 : R = if ev3 = 0 then rmS (L.take (L.length - 2)) d3 else (ev3, d3) := by rw [hR3, hL9]; rfl
            rw [← hL9] at HLI
            have HR4 := Lib.hid hR4
            have HLM := Lib.hid hLm
            clear hR3 hL9 hR4 hLm HX3 HR2
            go_wp2_with fail
            refine HLI.out.mono ?_
            rintro e w6 ⟨v6, rfl, hv6, hb6⟩
            obtain ⟨A6, c6, rfl, hc6a, _, hr6⟩ := hv6.shape
            rw [List.length_map] at hc6a ⊢
            obtain ⟨vL', es', h1, h2, h3, h4⟩ := HT3.out
            have HT6 : Hid (RTo w6 base g vL' es' d3 w6) := Lib.hid (by
             have h := RTo.mk' (h1.below hb6) (Fr.refl (RFoot g vL' es') w6)
             rw [dk_eq h2] at h
             exact h)
            have HFIN : Hid (∀ d W, RTo w6 base g vL' es' d W → RTo w base g vL es d W) := Lib.hid (fun d W h => RTo.trans (((Fr.of_below (RFoot g vL es) HBW.out).trans h3 (fun j hj => .inl hj)).trans (Fr.of_below (RFoot g vL es) hb6) (fun j hj => .inl hj)) (fun k hk => by
             rcases h4 k hk with h5 | h5
             ·exact .inl h5
             ·exact .inr (by have := HBW.out.size; omega)) h)
            have HLB : Hid (∀ ad, A6 = some ad → ¬ RFoot g vL' es' ad.block) := Lib.hid (fun ad e hm => by
             have h5 := (hv6.lt ad.block (by rw [e]; rfl)).1
             have h6 := (h1.lt _ hm).2
             omega)
            have HR6 := Lib.hid hr6
            clear h1 h2 h3 h4 hv6 hb6 hr6 HLI HT3
            go_wp2_with fail
            go_loopw [6, 14] (fun c n wr => ∃ (j : Nat) (d : DkD) (ev : Int), n = .int .i64 j ∧ j ≤ L.length ∧ c = .int .i64 ev ∧ Hid (RTo w6 base g vL' es' d wr) ∧ Hid (DOk (N + 1 + k2 + 1 + 1) d) ∧ Hid (R = if ev = 0 then rmS ((L.take (L.length - 2)).drop j) d else (ev, d))) (fun _ n _ => L.length - (intOf n).toNat)
            case atStart => exact ⟨0, d3, ev3, rfl, by omega, rfl, HT6, HK3, HR4⟩
            case round =>
             obtain ⟨j, d, ev4, rfl, hj, rfl, HT, HK, HRR⟩ := hrel
             clear HT6 HK3 HR4
             by_cases hev4 : ev4 = 0
             ·subst hev4
              by_cases hj2 : j + 2 < L.length
              ·have hjl : j < L.length := by omega
               have hfr := HT.out
               obtain ⟨_, _, _, _, hfr, _⟩ := hfr
               have hsw := hfr.size
               have hrw : Rd wr wr.heap.size A6 (L.map (Value.int .i64)) := rd_block HR6.out (fun ad e => hfr.block ad.block (by obtain ⟨ad', e', hl', _⟩ := HR6.out.at_ (k := j) (by rw [List.length_map]; exact hjl); rw [e] at e'; injection e' with e'; rw [e']; exact hl') (HLB.out ad e)) (by omega)
               obtain ⟨ad, hA6, had, hcell⟩ := rd_at hrw hjl
               have hnm := HLM.out _ (List.getElem_mem hjl)
               have hdr : (L.take (L.length - 2)).drop j = L[j] :: (L.take (L.length - 2)).drop (j + 1) := by
                rw [List.drop_eq_getElem_cons (by rw [List.length_take]; omega), List.getElem_take]
               have hstep : R = if (d.remove (sName L[j])).1 = 0 then rmS ((L.take (L.length - 2)).drop (j + 1)) (d.remove (sName L[j])).2 else ((d.remove (sName L[j])).1, (d.remove (sName L[j])).2) := by
                rw [HRR.out, if_pos rfl, hdr, rmS]
               have hok := HK.out.remove (sName L[j])
               have HRM : Hid (∀ W, Below wr.heap.size wr W → Calls Tryz.prog 44 #[.pointer (some ⟨g, 0, none⟩), .string (str (sName L[j]))] W fun e w' => e = .returned (.int .i64 (d.remove (sName L[j])).1) ∧ RTo w6 base g vL' es' (d.remove (sName L[j])).2 w') := Lib.hid (fun W hb => rto_remove (HT.out.below hb) (sName L[j]) (by have := HK.out.len; omega))
               obtain ⟨nj, hnj⟩ : ∃ nj, nj = L[j] := ⟨_, rfl⟩
               rw [← hnj] at hcell hnm hstep hok HRM
               have HNA := Lib.hid (rkname_any nj (by omega) wr)
               obtain ⟨X, hX⟩ : ∃ X, X = d.remove (sName nj) := ⟨_, rfl⟩
               rw [← hX] at hstep hok HRM
               have HSTEP := Lib.hid hstep
               have HK2 := Lib.hid hok
               subst hA6
               have hjI : (j : Int) + 2 < (L.length : Int) := by omega
               clear hfr hrw hdr hstep hok hnj hX HRR
               go_wp2_with fail
               refine HNA.out.mono ?_
               rintro e w7 ⟨rfl, hb7⟩
               have HB7 := Lib.hid hb7
               clear hb7 HNA
               go_wp2_with fail
               refine (HRM.out w7 HB7.out).mono ?_
               rintro e w8 ⟨rfl, hT8⟩
               have HT8 := Lib.hid hT8
               clear hT8 HRM
               go_wp2_with fail
               go_roundw
               case rel => exact ⟨j + 1, X.2, X.1, by go_num, by omega, rfl, HT8, HK2, HSTEP⟩
               case measure => simp [intOf]; omega
              ·have hjI : ¬ (j : Int) + 2 < (L.length : Int) := by omega
               have HE : Hid (R = (0, d)) := Lib.hid (by rw [HRR.out, if_pos rfl, List.drop_eq_nil_of_le (by rw [List.length_take]; omega), rmS])
               clear HRR
               go_wp2_with fail
               go_ret
               exact ⟨by rw [HE.out]; rfl, by rw [HE.out]; exact HFIN.out _ _ HT.out⟩
             ·have HE : Hid (R = (ev4, d)) := Lib.hid (by rw [HRR.out, if_neg hev4])
              clear HRR
              go_wp2_with fail
              ·go_ret
               exact ⟨by rw [HE.out]; rfl, by rw [HE.out]; exact HFIN.out _ _ HT.out⟩
              all_goals (go_ret; exact ⟨by rw [HE.out]; rfl, by rw [HE.out]; exact HFIN.out _ _ HT.out⟩)
        ·have HX : Hid (runS (actsL (rkOf p room es) i rows) (rkOf p room es) = if ev = 0 then runS [.sync, .ren i] d else (ev, d)) := Lib.hid (by rw [HRUN.out, List.drop_eq_nil_of_le (by rw [← HX3.out]; omega)]; rfl)
         clear HRUN
         go_upto_if 76 with (fail)
         go_cut [6] from 58 to 78 (fun c wx => ∃ (ev2 : Int) (d2 : DkD), c = .int .i64 ev2 ∧ Hid (RTo w4 base g vL es d2 wx) ∧ Hid (DOk (N + 1 + k2 + 1) d2) ∧ Hid (runS (actsL (rkOf p room es) i rows) (rkOf p room es) = if ev2 = 0 then runS [.ren i] d2 else (ev2, d2)))
         case first =>
          by_cases hev2 : ev = 0
          ·have HSY := Lib.hid (rto_sync HT.out newN (by have := HK.out.len; omega))
           have hstep : runS (actsL (rkOf p room es) i rows) (rkOf p room es) = if (d.sync newN).1 = 0 then runS [.ren i] (d.sync newN).2 else ((d.sync newN).1, (d.sync newN).2) := by
            rw [HX.out, if_pos hev2, runS]
            rfl
           have hok3 : DOk (N + 1 + k2 + 1) (d.sync newN).2 := SAct.ok .sync (fun _ h => by cases h) (fun _ h => by cases h) HK.out
           obtain ⟨X, hX⟩ : ∃ X, X = d.sync newN := ⟨_, rfl⟩
           rw [← hX] at HSY hstep hok3
           have HSTEP := Lib.hid hstep
           have HK2 := Lib.hid hok3
           subst hev2
           clear hstep hok3 hX
           go_wp2_with fail
           refine (show Calls Tryz.prog 76 #[.pointer (some ⟨g, 0, none⟩), .string ⟨#[115, 46, 110, 101, 119]⟩] _ _ from HSY.out).mono ?_
           rintro e w5 ⟨rfl, hT5⟩
           have HT5 := Lib.hid hT5
           clear hT5 HSY
           go_wp2_with fail
           go_meet
           exact ⟨X.1, X.2, rfl, HT5, HK2, HSTEP⟩
          ·have HSTEP : Hid (runS (actsL (rkOf p room es) i rows) (rkOf p room es) = if ev = 0 then runS [.ren i] d else (ev, d)) := Lib.hid (by rw [HX.out, if_neg hev2, if_neg hev2])
           go_wp2_with fail
           go_meet
           exact ⟨ev, d, rfl, HT, Lib.hid (HK.out.mono (by omega)), HSTEP⟩
         case rest =>
          obtain ⟨ev2, d2, rfl, HT2, HK2, HX2⟩ := hcut
          clear HT HK HX
          go_upto_if 80 with (fail)
          go_cut [6] from 79 to 85 (fun c wx => ∃ (ev3 : Int) (d3 : DkD), c = .int .i64 ev3 ∧ Hid (RTo w4 base g vL es d3 wx) ∧ Hid (DOk (N + 1 + k2 + 1 + 1) d3) ∧ Hid (runS (actsL (rkOf p room es) i rows) (rkOf p room es) = (ev3, d3)))
          case first =>
           by_cases hev3 : ev2 = 0
           ·have hfr := HT2.out
            obtain ⟨_, _, _, _, hfr, _⟩ := hfr
            have hsw := hfr.size
            have hs4 := HB4.out.size
            have hkb : Blk wc w.heap.size 29 #[.int .i64 i, .int .i64 t, .slice Av z.length cv, .slice Ad l.length cd] := ((hfr.block w.heap.size (by omega) (fun hm => by have := HLT0.out _ hm; omega)).trans ((HB4.out.block _ (by omega)).trans (HB3.out.block _ (by omega)))).trans HKA.out
            have t0 : wc.cell? ⟨w.heap.size, 0, none⟩ = some (.int .i64 i) := hkb.cell 0
            have HNA := Lib.hid (rkname_any i hi wc)
            have hsl := sName_len i hi
            have hstep : runS (actsL (rkOf p room es) i rows) (rkOf p room es) = ((d2.rename newN (sName i)).1, (d2.rename newN (sName i)).2) := by
             rw [HX2.out, if_pos hev3, runS]
             show (if (d2.rename newN (sName i)).1 = 0 then runS [] (d2.rename newN (sName i)).2 else d2.rename newN (sName i)) = d2.rename newN (sName i)
             split
             ·rename_i h0
              rw [runS, ← h0]
             ·rfl
            have hok3 : DOk (N + 1 + k2 + 1 + 1) (d2.rename newN (sName i)).2 := SAct.ok (.ren i) (fun i' h => by injection h with h; rw [← h]; exact hi) (fun _ h => by cases h) HK2.out
            have HRN : Hid (∀ W, Below wc.heap.size wc W → Calls Tryz.prog 77 #[.pointer (some ⟨g, 0, none⟩), .string (str newN), .string (str (sName i))] W fun e w' => e = .returned (.int .i64 (d2.rename newN (sName i)).1) ∧ RTo w4 base g vL es (d2.rename newN (sName i)).2 w') := Lib.hid (fun W hb => rto_rename (HT2.out.below hb) newN (sName i) (by omega) (by have := HK2.out.len; omega))
            obtain ⟨X, hX⟩ : ∃ X, X = d2.rename newN (sName i) := ⟨_, rfl⟩
            rw [← hX] at HRN hstep hok3
            have HSTEP := Lib.hid hstep
            have HK3 := Lib.hid hok3
            subst hev3
            clear hstep hok3 hX hkb hfr
            go_wp2_with fail
            refine HNA.out.mono ?_
            rintro e w5 ⟨rfl, hb5⟩
            have HB5 := Lib.hid hb5
            clear hb5 HNA
            go_wp2_with fail
            refine (show Calls Tryz.prog 77 #[.pointer (some ⟨g, 0, none⟩), .string ⟨#[115, 46, 110, 101, 119]⟩, .string (str (sName i))] w5 _ from HRN.out w5 HB5.out).mono ?_
            rintro e w6 ⟨rfl, hT6⟩
            have HT6 := Lib.hid hT6
            clear hT6 HRN
            go_wp2_with fail
            go_meet
            exact ⟨X.1, X.2, rfl, HT6, HK3, HSTEP⟩
           ·have HSTEP : Hid (runS (actsL (rkOf p room es) i rows) (rkOf p room es) = (ev2, d2)) := Lib.hid (by rw [HX2.out, if_neg hev3])
            go_wp2_with fail
            go_meet
            exact ⟨ev2, d2, rfl, HT2, Lib.hid (HK2.out.mono (by omega)), HSTEP⟩
          case rest =>
           obtain ⟨ev3, d3, rfl, HT3, HK3, HX3⟩ := hcut
           clear HT2 HK2 HX2
           have hR3 : R = if ev3 = 0 then tailS d3 else (ev3, d3) := by rw [HR2.out, HX3.out]
           have HLI := Lib.hid (rto_list HT3.out (by have := HK3.out.len; omega) (fun q hq => (HK3.out.nm q hq).2))
           obtain ⟨L, hL9⟩ : ∃ L, L = idxL (d3.fs.map (·.1)) := ⟨_, rfl⟩
           have hLm : ∀ n ∈ L, 0 ≤ n ∧ n ≤ 1099511627776 := fun n hn => by rw [hL9] at hn; exact idxL_mem hn
           have hLl : L.length ≤ 1000010000 := by rw [hL9]; have h1 := idxL_len (d3.fs.map (·.1)); rw [List.length_map] at h1; have := HK3.out.len; omega
           have hR4 : R = if ev3 = 0 then rmS (L.take (L.length - 2)) d3 else (ev3, d3) := by rw [hR3, hL9]; rfl
           rw [← hL9] at HLI
           have HR4 := Lib.hid hR4
           have HLM := Lib.hid hLm
           clear hR3 hL9 hR4 hLm HX3 HR2
           go_wp2_with fail
           refine HLI.out.mono ?_
           rintro e w6 ⟨v6, rfl, hv6, hb6⟩
           obtain ⟨A6, c6, rfl, hc6a, _, hr6⟩ := hv6.shape
           rw [List.length_map] at hc6a ⊢
           obtain ⟨vL', es', h1, h2, h3, h4⟩ := HT3.out
           have HT6 : Hid (RTo w6 base g vL' es' d3 w6) := Lib.hid (by
            have h := RTo.mk' (h1.below hb6) (Fr.refl (RFoot g vL' es') w6)
            rw [dk_eq h2] at h
            exact h)
           have HFIN : Hid (∀ d W, RTo w6 base g vL' es' d W → RTo w base g vL es d W) := Lib.hid (fun d W h => RTo.trans (((Fr.of_below (RFoot g vL es) HBW.out).trans h3 (fun j hj => .inl hj)).trans (Fr.of_below (RFoot g vL es) hb6) (fun j hj => .inl hj)) (fun k hk => by
            rcases h4 k hk with h5 | h5
            ·exact .inl h5
            ·exact .inr (by have := HBW.out.size; omega)) h)
           have HLB : Hid (∀ ad, A6 = some ad → ¬ RFoot g vL' es' ad.block) := Lib.hid (fun ad e hm => by
            have h5 := (hv6.lt ad.block (by rw [e]; rfl)).1
            have h6 := (h1.lt _ hm).2
            omega)
           have HR6 := Lib.hid hr6
           clear h1 h2 h3 h4 hv6 hb6 hr6 HLI HT3
           go_wp2_with fail
           go_loopw [6, 14] (fun c n wr => ∃ (j : Nat) (d : DkD) (ev : Int), n = .int .i64 j ∧ j ≤ L.length ∧ c = .int .i64 ev ∧ Hid (RTo w6 base g vL' es' d wr) ∧ Hid (DOk (N + 1 + k2 + 1 + 1) d) ∧ Hid (R = if ev = 0 then rmS ((L.take (L.length - 2)).drop j) d else (ev, d))) (fun _ n _ => L.length - (intOf n).toNat)
           case atStart => exact ⟨0, d3, ev3, rfl, by omega, rfl, HT6, HK3, HR4⟩
           case round =>
            obtain ⟨j, d, ev4, rfl, hj, rfl, HT, HK, HRR⟩ := hrel
            clear HT6 HK3 HR4
            by_cases hev4 : ev4 = 0
            ·subst hev4
             by_cases hj2 : j + 2 < L.length
             ·have hjl : j < L.length := by omega
              have hfr := HT.out
              obtain ⟨_, _, _, _, hfr, _⟩ := hfr
              have hsw := hfr.size
              have hrw : Rd wr wr.heap.size A6 (L.map (Value.int .i64)) := rd_block HR6.out (fun ad e => hfr.block ad.block (by obtain ⟨ad', e', hl', _⟩ := HR6.out.at_ (k := j) (by rw [List.length_map]; exact hjl); rw [e] at e'; injection e' with e'; rw [e']; exact hl') (HLB.out ad e)) (by omega)
              obtain ⟨ad, hA6, had, hcell⟩ := rd_at hrw hjl
              have hnm := HLM.out _ (List.getElem_mem hjl)
              have hdr : (L.take (L.length - 2)).drop j = L[j] :: (L.take (L.length - 2)).drop (j + 1) := by
               rw [List.drop_eq_getElem_cons (by rw [List.length_take]; omega), List.getElem_take]
              have hstep : R = if (d.remove (sName L[j])).1 = 0 then rmS ((L.take (L.length - 2)).drop (j + 1)) (d.remove (sName L[j])).2 else ((d.remove (sName L[j])).1, (d.remove (sName L[j])).2) := by
               rw [HRR.out, if_pos rfl, hdr, rmS]
              have hok := HK.out.remove (sName L[j])
              have HRM : Hid (∀ W, Below wr.heap.size wr W → Calls Tryz.prog 44 #[.pointer (some ⟨g, 0, none⟩), .string (str (sName L[j]))] W fun e w' => e = .returned (.int .i64 (d.remove (sName L[j])).1) ∧ RTo w6 base g vL' es' (d.remove (sName L[j])).2 w') := Lib.hid (fun W hb => rto_remove (HT.out.below hb) (sName L[j]) (by have := HK.out.len; omega))
              obtain ⟨nj, hnj⟩ : ∃ nj, nj = L[j] := ⟨_, rfl⟩
              rw [← hnj] at hcell hnm hstep hok HRM
              have HNA := Lib.hid (rkname_any nj (by omega) wr)
              obtain ⟨X, hX⟩ : ∃ X, X = d.remove (sName nj) := ⟨_, rfl⟩
              rw [← hX] at hstep hok HRM
              have HSTEP := Lib.hid hstep
              have HK2 := Lib.hid hok
              subst hA6
              have hjI : (j : Int) + 2 < (L.length : Int) := by omega
              clear hfr hrw hdr hstep hok hnj hX HRR
              go_wp2_with fail
              refine HNA.out.mono ?_
              rintro e w7 ⟨rfl, hb7⟩
              have HB7 := Lib.hid hb7
              clear hb7 HNA
              go_wp2_with fail
              refine (HRM.out w7 HB7.out).mono ?_
              rintro e w8 ⟨rfl, hT8⟩
              have HT8 := Lib.hid hT8
              clear hT8 HRM
              go_wp2_with fail
              go_roundw
              case rel => exact ⟨j + 1, X.2, X.1, by go_num, by omega, rfl, HT8, HK2, HSTEP⟩
              case measure => simp [intOf]; omega
             ·have hjI : ¬ (j : Int) + 2 < (L.length : Int) := by omega
              have HE : Hid (R = (0, d)) := Lib.hid (by rw [HRR.out, if_pos rfl, List.drop_eq_nil_of_le (by rw [List.length_take]; omega), rmS])
              clear HRR
              go_wp2_with fail
              go_ret
              exact ⟨by rw [HE.out]; rfl, by rw [HE.out]; exact HFIN.out _ _ HT.out⟩
            ·have HE : Hid (R = (ev4, d)) := Lib.hid (by rw [HRR.out, if_neg hev4])
             clear HRR
             go_wp2_with fail
             ·go_ret
              exact ⟨by rw [HE.out]; rfl, by rw [HE.out]; exact HFIN.out _ _ HT.out⟩
             all_goals (go_ret; exact ⟨by rw [HE.out]; rfl, by rw [HE.out]; exact HFIN.out _ _ HT.out⟩)
  ·have e : R = (snapE i t z l, rkOf p room es) := by rw [HR.out]; unfold saveD; rw [if_neg ho, if_pos hE]
   rw [e]
   unfold snapV at HBY
   clear e
   obtain ⟨E, hEe⟩ : ∃ E, E = snapE i t z l := ⟨_, rfl⟩
   rw [← hEe] at HBY hE ⊢
   clear hEe
   go_enter Tryz.func31, Tryz.ntmps31
   go_upto_region 1 with (fail)
   rw [← HWA.out]
   go_wp2_with fail
   refine HBY.out.mono ?_
   rintro e w2 ⟨v2, rfl, hv2, hb2⟩
   obtain ⟨A2, c2', rfl, _, _, _⟩ := bs_shape hv2
   have HB2 := Lib.hid hb2
   clear hv2 hb2 HBY
   go_wp2_with fail
   go_ret
   exact ⟨rfl, RTo.mk' (HD.out.below HB2.out) ((Fr.of_below (RFoot g vL es) HBA.out).trans (Fr.of_below (RFoot g vL es) HB2.out) (fun j hj => .inl hj))⟩
end Go.Proofs.YteehkcpokgeipaaGreatDoor
