/- The reference's disk: Append. Condition: the disk is a call's own; name and parts can be read. -/
import Derived.Test.YteehkcpokgeipaaGreatDoorRDiskBoot
import Derived.Test.YteehkcpokgeipaaGreatDoorDiskApp
set_option linter.unusedVariables false
namespace Go.Proofs.YteehkcpokgeipaaGreatDoor
open Go.RowKit Go.Maps Go.Sort Oct
section
variable {w w1 w2 : World} {base g : Nat} {p p' : PWD} {room : Int} {vL vL' : Value} {es es' : List (Nm × RF)}
theorem flat_all (ps : List Row) : flat ps = (ps.map Row.l).flatten := by unfold flat; rw [List.flatMap_def]
def fOf (n : Nm) (fs : List (Nm × FD)) : FD := (asGet n fs).getD ⟨[], 0⟩
theorem rd_block {w w' : World} {B B' : Nat} {A : Option Addr} {xs : List Value} (h : Rd w B A xs) (hk : ∀ ad, A = some ad → w'.heap[ad.block]? = w.heap[ad.block]?) (hB : B ≤ B') : Rd w' B' A xs := fun h0 => by
 obtain ⟨ad, e, hlt, hc⟩ := h h0
 exact ⟨ad, e, by omega, fun j u hu => (World.cell?_of_block (w := w) (by rw [block_of_add]; exact hk ad e)).trans (hc j u hu)⟩
theorem app_end {w wr w1 y3 w4 : World} {n : Nm} {v2 vL4 : Value} {f : FD} (hB : Below w.heap.size w wr) (hF1 : Fr (RFoot g vL es) wr w1) (hb3 : Below w1.heap.size w1 y3) (hD4 : RDiskAt w4 base g p' room vL4 (asPut n ⟨v2, f⟩ es)) (hF4 : Fr (fun k => k = g) y3 w4)
  (hk4 : ∀ k, RFoot g vL4 (asPut n ⟨v2, f⟩ es) k → RFoot g vL es k ∨ y3.heap.size ≤ k ∨ v2.ownBlock = some k) (hv2 : ∀ k, v2.ownBlock = some k → w1.heap.size ≤ k) : RTo w base g vL es ⟨p', room, asPut n f (sec RF.f es)⟩ w4 := by
 refine ⟨vL4, _, hD4, by rw [asPut_sec], (((Fr.of_below (RFoot g vL es) hB).trans hF1 (fun j hj => .inl hj)).trans (Fr.of_below (RFoot g vL es) hb3) (fun j hj => .inl hj)).trans hF4 (fun j hj => .inl (.inl hj)), fun k hk => ?_⟩
 have h1 := hB.size
 have h2 := hF1.size
 have h3 := hb3.size
 rcases hk4 k hk with h | h | h
 ·exact .inl h
 ·exact .inr (by omega)
 ·exact .inr (by have := hv2 k h; omega)
set_option maxHeartbeats 8000000 in
set_option maxRecDepth 100000 in
theorem rappend_any (h : RDiskAt w base g p room vL es) (n : Nm) (hn : n.length ≤ 140737488351232) (A : Option Addr) (ps : List Row) (c : Nat) (hrd : Rd w w.heap.size A (ps.map Row.val)) (hp : RRd w w.heap.size ps) (hpc : ps.length ≤ c) (hpl : ps.length ≤ 1000000000) (hfl : (flat ps).length ≤ 274877906944)
  (hfe : ∀ q ∈ es, q.2.f.b.length ≤ 549755813888) (hsz : sizes (sec RF.f es) ≤ 4611686018427387904) (hl : es.length ≤ 549755813888) :
  Calls Tryz.prog 41 #[.pointer (some ⟨g, 0, none⟩), .string (str n), .slice A ps.length c] w fun e w' => e = .returned (.int .i64 ((rkOf p room es).append n (ps.map Row.l)).1) ∧ RTo w base g vL es ((rkOf p room es).append n (ps.map Row.l)).2 w' := by
 obtain ⟨x, y, hb, hxy, hx, hy⟩ := h.blk
 obtain ⟨⟨c0, c1, c2, c3, c4, c5⟩, _⟩ := rblk6 hb
 have HR := Lib.hid (RTo.mk' h (Fr.refl (RFoot g vL es) w))
 have hs0 := sizes_nonneg (sec RF.f es)
 obtain ⟨_, hr0, hr1⟩ := h.num
 obtain ⟨R, hR⟩ : ∃ R, R = (rkOf p room es).append n (ps.map Row.l) := ⟨_, rfl⟩
 rw [← hR]
 have hsn : (str n).size = n.length := str_size n
 by_cases ho : p.off = true
 ·have e : R = (50, rkOf p room es) := by rw [hR]; unfold DkD.append; rw [if_pos ho]
  rw [e]
  rw [ho] at c2
  clear h e hb hxy hx hy hR hrd hp hfe
  go_enter Tryz.func41, Tryz.ntmps41
  go_wp2_with fail
  go_ret
  exact ⟨rfl, HR.out⟩
 ·have ho' : p.off = false := by simpa using ho
  rw [ho'] at c2
  by_cases hbad : n = [] ∨ 32 < n.length
  ·have e : R = (1, rkOf p room es) := by rw [hR]; unfold DkD.append; rw [if_neg ho, if_pos hbad]
   rw [e]
   clear h e hb hxy hx hy hR hrd hp hfe
   by_cases h1 : n = []
   ·subst h1
    have hne0 : (str ([] : Nm)).toList.isEmpty = true := by rw [str_toList]; rfl
    clear hbad
    go_enter Tryz.func41, Tryz.ntmps41
    go_wp2_with fail
    go_ret
    exact ⟨rfl, HR.out⟩
   ·have hne := isEmpty_str h1
    have h2I : (32 : Int) < ((str n).size : Int) := by
     rcases hbad with h | h
     ·exact absurd h h1
     ·rw [hsn]; omega
    clear hbad h1
    go_enter Tryz.func41, Tryz.ntmps41
    go_wp2_with fail
    go_ret
    exact ⟨rfl, HR.out⟩
  ·have hne := isEmpty_str (fun h => hbad (.inl h))
   have h2I : ¬ (32 : Int) < ((str n).size : Int) := by rw [hsn]; have : ¬ 32 < n.length := fun h => hbad (.inr h); omega
   have H52 : Hid (fits (room - sizes (sec RF.f es)) (ps.map Row.l) = false → R = (52, rkOf p room es)) := Lib.hid fun hf => by
    rw [hR]; unfold DkD.append; rw [if_neg ho, if_neg hbad, if_pos (show fits (rkOf p room es).free _ = false from hf)]
   have HOK : Hid (fits (room - sizes (sec RF.f es)) (ps.map Row.l) = true → R = (if p.cut.1 = true then 50 else 0, ⟨p.cut.2.2, room, asPut n ⟨(fOf n (sec RF.f es)).b ++ (if p.cut.1 = true then upTo p.cut.2.1 (flat ps) else flat ps), (fOf n (sec RF.f es)).safe⟩ (sec RF.f es)⟩)) := Lib.hid fun hf => by
    rw [hR]; unfold DkD.append; rw [if_neg ho, if_neg hbad, if_neg (by rw [show (rkOf p room es).free = room - sizes (sec RF.f es) from rfl, hf]; simp), flat_all]
    rfl
   have HFR := Lib.hid (rfree_any h hsz (by omega))
   have HRD := Lib.hid (And.intro hrd (And.intro hp hfe))
   have H := Lib.hid h
   have HXY := Lib.hid (And.intro hxy (And.intro hx hy))
   have HL : Hid (es.length ≤ 549755813888) := Lib.hid hl
   have hgl : g < w.heap.size := h.glt
   have HBW : Hid (base ≤ w.heap.size) := Lib.hid (by have := h.low; omega)
   clear h hb hR ho ho' hrd hp hfe hbad hxy hx hy hl
   go_enter Tryz.func41, Tryz.ntmps41
   go_wp2_with fail
   refine HFR.out.mono ?_
   rintro e w' ⟨rfl, rfl⟩
   clear HFR
   go_wp2_with fail
   go_loopw [7, 8] (fun left i wr => ∃ (k : Nat) (lf : Int), i = .int .i64 k ∧ k ≤ ps.length ∧ left = .int .i64 lf ∧ -4611686018427387904 ≤ lf ∧ lf ≤ 9223372036854775807 ∧ Hid (fits (room - sizes (sec RF.f es)) (ps.map Row.l) = fits lf ((ps.drop k).map Row.l)) ∧ Hid (w = wr)) (fun _ i _ => ps.length - (intOf i).toNat)
   case atStart => exact ⟨0, room - sizes (sec RF.f es), rfl, Nat.zero_le _, rfl, by omega, by omega, Lib.hid rfl, Lib.hid rfl⟩
   case round =>
    obtain ⟨k, lf, rfl, hk, rfl, hlf0, hlf1, HFT, HW⟩ := hrel
    obtain rfl := HW.out
    by_cases hlt : k < ps.length
    ·have hltI : (k : Int) < ps.length := by omega
     obtain ⟨ad, rfl, had, hcell⟩ := rd_at HRD.out.1 hlt
     have HST := Lib.hid (fits_step (left := lf) hlt)
     have hpl2 : ps[k].l.length ≤ 4611686018427387904 := (HRD.out.2.1 _ (List.getElem_mem hlt)).2
     generalize ps[k] = q at hcell HST hpl2
     obtain ⟨qa, ql, qc⟩ := q
     simp only [Row.val] at hcell HST hpl2
     by_cases hle : (ql.length : Int) ≤ lf
     ·have HN := Lib.hid (show fits (room - sizes (sec RF.f es)) (ps.map Row.l) = fits (lf - ql.length) ((ps.drop (k + 1)).map Row.l) by rw [HFT.out, HST.out, decide_eq_true hle, Bool.true_and])
      clear HST HFT
      go_wp2_with fail
      go_roundw
      case rel => exact ⟨k + 1, lf - ql.length, by go_num, by omega, rfl, by omega, by omega, HN, Lib.hid trivial⟩
      case measure => simp [intOf]; omega
     ·have HN := Lib.hid (H52.out (by rw [HFT.out, HST.out, decide_eq_false hle, Bool.false_and]))
      have hgt : lf < (ql.length : Int) := by omega
      clear HST HFT hle
      go_wp2_with fail
      go_ret
      exact ⟨by rw [HN.out]; rfl, by rw [HN.out]; exact HR.out⟩
    ·have hkl : k = ps.length := by omega
     have HRE := Lib.hid (HOK.out (by rw [HFT.out, hkl, List.drop_length]; rfl))
     have hltI : ¬ (k : Int) < ps.length := by omega
     clear HFT H52 HOK hkl HW
     go_wp2_with fail
     clear hltI hlf0 hlf1 hlt hk
     go_loopw [9, 10] (fun v i wr => ∃ (k : Nat), i = .int .i64 k ∧ k ≤ ps.length ∧ Hid (Bs wr w.heap.size v (flat (ps.take k))) ∧ Hid (Below w.heap.size w wr)) (fun _ i _ => ps.length - (intOf i).toNat)
     case atStart => exact ⟨0, rfl, Nat.zero_le _, Lib.hid (Own.nil _ _ _), Lib.hid (Below.refl _ _)⟩
     case round =>
      obtain ⟨k, rfl, hk, HV, HB⟩ := hrel
      have hsB := HB.out.size
      by_cases hlt : k < ps.length
      ·have hltI : (k : Int) < ps.length := by omega
       obtain ⟨ad, rfl, had, hcell⟩ := rd_at (HRD.out.1.below HB.out) hlt
       have HT := Lib.hid (flat_take ps k hlt)
       have HQ := Lib.hid ((HRD.out.2.1 _ (List.getElem_mem hlt)).1.below HB.out)
       have hft := flat_le ps (k + 1)
       have hft2 := flat_le ps k
       generalize ps[k] = q at hcell HT HQ
       obtain ⟨qa, ql, qc⟩ := q
       simp only [Row.val] at hcell HT HQ
       have hqn : (flat (ps.take k)).length + ql.length ≤ 274877906944 := by
        have := congrArg List.length HT.out
        rw [List.length_append] at this
        omega
       obtain ⟨acc, hacc⟩ : ∃ acc, acc = flat (ps.take k) := ⟨_, rfl⟩
       rw [← hacc] at HV HT hqn
       obtain ⟨Ao, co, hso, _⟩ := Own.shape HV.out
       clear hacc hft hft2
       subst hso
       go_wp2_with (at_builtin; go_must (refine wpList_append_any rfl (.tmp 55) (.tmp 59) 27 rfl w.heap.size 5 (.int .u8 0) 1 Tryz.underlying27 info_u8 rfl _ _ rfl HV.out w.heap.size qa _ qc _ rfl (cells_length _).symm HQ.out (bytes_oneCell _) (by simp only [cells_length]; unfold maxLen; omega) (by simp only [cells_length]; omega) hsB ?_; intro v2 w2 hv2 hg2 _))
       have HV2 := Lib.hid hv2
       have HB2 := Lib.hid (HB.out.grown hg2 hsB (fun j hj => (Own.lt HV.out j hj).1))
       clear hv2 hg2
       go_roundw
       case rel => exact ⟨k + 1, by go_num, by omega, Lib.hid (by rw [HT.out]; unfold Bs; rw [cells_append]; exact HV2.out), HB2⟩
       case measure => simp [intOf]; omega
      ·have hkl : ps.take k = ps := List.take_of_length_le (by omega)
       rw [hkl] at HV
       have hltI : ¬ (k : Int) < ps.length := by omega
       have hD := H.out.below HB.out
       obtain ⟨xr, yr, hbr, hxyr, hxr, hyr⟩ := hD.blk
       have d5 := hbr.cell 5
       have d5' : wr.cell? ⟨g, 5, none⟩ = some (.int .i64 yr) := d5
       have HGO := Lib.hid (rgoes_any hD)
       obtain ⟨Ap, cp, hvp, hvl, hvc, hvr⟩ := (Got.of_own HV.out).shape
       subst hvp
       have HVR := Lib.hid hvr
       have HDR := Lib.hid hD
       have HYR := Lib.hid (And.intro hxyr hyr)
       have HLO : Hid (∀ ad, Ap = some ad → w.heap.size ≤ ad.block ∧ ad.block < wr.heap.size) := Lib.hid (fun ad e => by
        have := Own.lt HV.out ad.block (by rw [e]; rfl)
        exact this)
       clear hkl hbr d5 hD hxyr hxr hyr hvr
       cases hgo : p.cut.1 with
       | false =>
        have HRE := Lib.hid (show R = (0, ⟨p.cut.2.2, room, asPut n ⟨(fOf n (sec RF.f es)).b ++ flat ps, (fOf n (sec RF.f es)).safe⟩ (sec RF.f es)⟩) by rw [HRE.out, hgo]; rfl)
        rw [hgo] at HGO
        clear hgo
        go_wp2_with fail
        refine HGO.out.mono ?_
        rintro e w1 ⟨rfl, hD1, hF1, -⟩
        have hs1 := hF1.size
        have hrq1 : Rd w1 w1.heap.size Ap (cells (flat ps)) := rd_block HVR.out (fun ad e => hF1.block ad.block (HLO.out ad e).2 (fun hm => by have h1 := (H.out.lt _ hm).2; have h2 := (HLO.out ad e).1; omega)) hs1
        obtain ⟨Q, hQ⟩ : ∃ Q, Q = flat ps := ⟨_, rfl⟩
        have hrq : Rd w1 w1.heap.size Ap (cells Q) := by rw [hQ]; exact hrq1
        have hQl : Q.length = (flat ps).length := by rw [hQ]
        rw [← hQ] at HRE
        clear hQ hrq1
        have HRQ := Lib.hid hrq
        have HQL := Lib.hid hQl
        have hQ9 : Q.length ≤ 274877906944 := by omega
        clear hQl
        have HF1 := Lib.hid hF1
        have HD1 := Lib.hid hD1
        clear hD1 hF1 hrq HGO
        go_wp2_with fail
        obtain ⟨wA, hwA⟩ : ∃ wA, wA = w1.alloc (.cells #[.string (str n), .slice none 0 0, .int .i64 0] 128) := ⟨_, rfl⟩
        have hbA : Below w1.heap.size w1 wA := by rw [hwA]; exact (Below.refl _ w1).alloc (Nat.le_refl _) _
        have HAT := Lib.hid (rat_any (HD1.out.below hbA) n (by have := HL.out; omega))
        have HWA := Lib.hid hwA
        have hsA : wA.heap.size = w1.heap.size + 1 := by rw [hwA]; simp
        rw [← hwA]
        refine HAT.out.mono ?_
        rintro e w' ⟨rfl, rfl⟩
        clear hwA HAT
        cases hg : asGet n es with
        | none =>
         rw [rAt_of_none hg]
         have hfo : fOf n (sec RF.f es) = ⟨[], 0⟩ := by unfold fOf; rw [asGet_rf hg]; rfl
         rw [hfo] at HRE
         have hKA : Blk wA w1.heap.size 128 #[.string (str n), .slice none 0 0, .int .i64 0] := by rw [HWA.out]; exact Blk.new w1 128 _
         obtain ⟨wX, hwX⟩ : ∃ wX, wX = wA := ⟨_, rfl⟩
         have hbX : Below w1.heap.size w1 wX := by rw [hwX]; exact hbA
         have HKX := Lib.hid (show Blk wX w1.heap.size 128 #[.string (str n), .slice none ([] : List UInt8).length 0, .int .i64 0] by rw [hwX]; exact hKA)
         have HRX := Lib.hid (show Rd wX wX.heap.size none (cells ([] : List UInt8)) from Rd.none_)
         have hXs : w1.heap.size + 1 ≤ wX.heap.size := HKX.out.lt
         have m1 : wX.cell? ⟨w1.heap.size, 1, none⟩ = some (.slice none ([] : List UInt8).length 0) := HKX.out.cell 1
         have HBX := Lib.hid hbX
         rw [← hwX]
         clear hg hfo hKA hwX hbX hbA
         go_wp2_with (first | (at_builtin; refine wpList_append_any rfl (.tmp 89) (.tmp 91) 27 rfl (w1.heap.size + 1) 5 (.int .u8 0) 1 Tryz.underlying27 info_u8 rfl _ [] rfl (Own.nil _ _ _) wX.heap.size none ([] : List UInt8).length 0 (cells ([] : List UInt8)) rfl (cells_length _).symm HRX.out (bytes_oneCell _) (by unfold maxLen; simp; try omega) (by simp; try omega) hXs ?_; intro v1 y1 hv1 hg1 _; have hv1' : Bs y1 (w1.heap.size + 1) v1 ([] : List UInt8) := hv1; have hby1 : Below (w1.heap.size + 1) wX y1 := (Below.refl _ wX).grown hg1 hXs (fun j hj => by cases hj); obtain ⟨Av1, cv1, e1, _⟩ := bs_shape hv1'; subst e1; have HV1 := Lib.hid hv1'; have HY1 := Lib.hid hby1; have hys1 := hby1.size; clear hv1 hv1' hg1 hby1) | (at_builtin; go_must (refine wpList_append_any rfl (.tmp 93) (.tmp 94) 27 rfl (w1.heap.size + 1) 5 (.int .u8 0) 1 Tryz.underlying27 info_u8 rfl _ _ rfl HV1.out w1.heap.size Ap (flat ps).length cp (cells Q) rfl (by rw [cells_length]; exact HQL.out.symm) (HRQ.out.below (HBX.out.trans (HY1.out.mono (by omega)))) (bytes_oneCell _) (by have := HQL.out; simp only [cells_length, List.length_nil]; unfold maxLen; omega) (by have := HQL.out; simp only [cells_length, List.length_nil]; omega) (by omega) ?_; intro v2 y2 hv2 hg2 _; have hv2' : Bs y2 (w1.heap.size + 1) v2 (([] : List UInt8) ++ Q) := (by unfold Bs; rw [cells_append]; exact hv2); have hby2 : Below (w1.heap.size + 1) wX y2 := HY1.out.grown hg2 (by omega) (fun j hj => (Own.lt HV1.out j hj).1); obtain ⟨Av2, cv2, e2, _⟩ := bs_shape hv2'; subst e2; have HV2 := Lib.hid hv2'; have HY2 := Lib.hid hby2; have hK2 : Blk y2 w1.heap.size 128 _ := (hby2.block w1.heap.size (by omega)).trans HKX.out; have n0 := hK2.cell 0; have n1 := hK2.cell 1; have n2 := hK2.cell 2; have n3 := hK2.frozen 1; clear hv2 hv2' hg2 hby2 hK2)))
         have hlen : (([] : List UInt8) ++ Q).length = Q.length := by simp
         have hv2 := HV2.out
         rw [hlen] at hv2
         have hb3 : Below w1.heap.size w1 (y2.setCell ⟨w1.heap.size, 1, none⟩ (.slice Av2 Q.length cv2)) := (HBX.out.trans (HY2.out.mono (by omega))).setCell (p := ⟨w1.heap.size, 1, none⟩) (Nat.le_refl _) _
         obtain ⟨y3, hy3⟩ : ∃ y3, y3 = y2.setCell ⟨w1.heap.size, 1, none⟩ (.slice Av2 Q.length cv2) := ⟨_, rfl⟩
         rw [← hy3] at hb3 ⊢
         have hvlo : ∀ k, (Value.slice Av2 Q.length cv2).ownBlock = some k → w1.heap.size ≤ k := fun k hk => by have := (Own.lt hv2 k hk).1; omega
         have hgt : Got y3 base (.slice Av2 Q.length cv2) (([] : List UInt8) ++ Q) := ((Got.of_own hv2).mono (by have := HBW.out; omega)).kept (fun j hj => by
          rw [hy3]
          refine Below.heap_setCell y2 ⟨w1.heap.size, 1, none⟩ _ j ?_
          have := (Own.lt hv2 j hj).1
          show j ≠ w1.heap.size
          omega) (by rw [hy3]; simp)
         have HPT := Lib.hid (rput_any (HD1.out.below hb3) n ⟨.slice Av2 Q.length cv2, ⟨([] : List UInt8) ++ Q, 0⟩⟩ hgt (Nat.zero_le _) (by have := HL.out; omega))
         have HB3 := Lib.hid hb3
         have HVLO := Lib.hid hvlo
         clear hlen hv2 hb3 hy3 hvlo hgt HV2 n0 n1 n2 n3 m1
         refine HPT.out.mono ?_
         rintro e w4 ⟨⟨v, rfl⟩, vL4, hD4, hF4, hk4⟩
         have HEND := Lib.hid (app_end HB.out HF1.out HB3.out hD4 hF4 hk4 HVLO.out)
         have HEN := Lib.hid (rend_any false w4)
         clear hD4 hF4 hk4 HPT
         go_wp2_with fail
         refine HEN.out.mono ?_
         rintro e w' ⟨rfl, rfl⟩
         go_wp2_with fail
         go_ret
         rw [HRE.out]
         exact ⟨rfl, HEND.out⟩
        | some fe =>
         obtain ⟨k, hk, ek, hek⟩ := rAt_of_get hg
         rw [ek]
         have hfo : fOf n (sec RF.f es) = fe.f := by unfold fOf; rw [asGet_rfs hg]; rfl
         rw [hfo] at HRE
         have hDA := HD1.out.below hbA
         obtain ⟨A1, c1', hvL1, hlc1, hcm1, hat1⟩ := hDA.shape
         obtain ⟨b, hA1, hbl, q0, q1, q2, -, -⟩ := hat1 k hk
         have hmem : (n, fe) ∈ es := by rw [← hek]; exact List.getElem_mem hk
         rw [hek] at q0 q1 q2
         obtain ⟨Ax, cx, hv, hvl, hvc, hvr⟩ := (hDA.got _ hmem).shape
         simp only at hv hvl hvr q0 q1 q2
         rw [hv] at q1
         have hkI : (0 : Int) ≤ (k : Int) := by omega
         have hkL : (k : Int) < (es.length : Int) := by omega
         obtain ⟨xA, yA, hbA6, -⟩ := hDA.blk
         have e0 := hbA6.cell 0
         rw [hvL1, hA1] at e0
         have e0' : wA.cell? ⟨g, 0, none⟩ = some (.slice (some ⟨b, 0, none⟩) es.length c1') := e0
         have hfl2 : fe.f.b.length ≤ 549755813888 := HRD.out.2.2 _ hmem
         have hsf : fe.f.safe ≤ fe.f.b.length := H.out.safe _ hmem
         have hKA : Blk wA w1.heap.size 128 #[.string (str n), .slice none 0 0, .int .i64 0] := by rw [HWA.out]; exact Blk.new w1 128 _
         have k0 := hKA.frozen 0
         have k1 := hKA.frozen 1
         have k2 := hKA.frozen 2
         have z0 : wA.cell? ⟨w1.heap.size, 0, none⟩ = some (.string (str n)) := hKA.cell 0
         have z1 : wA.cell? ⟨w1.heap.size, 1, none⟩ = some (.slice none 0 0) := hKA.cell 1
         have z2 : wA.cell? ⟨w1.heap.size, 2, none⟩ = some (.int .i64 0) := hKA.cell 2
         obtain ⟨wX, hwX⟩ : ∃ wX, wX = ((wA.setCell ⟨w1.heap.size, 0, none⟩ (.string (str n))).setCell ⟨w1.heap.size, 1, none⟩ (.slice Ax fe.f.b.length cx)).setCell ⟨w1.heap.size, 2, none⟩ (.int .i64 fe.f.safe) := ⟨_, rfl⟩
         have hbX : Below w1.heap.size w1 wX := by rw [hwX]; exact ((hbA.setCell (p := ⟨w1.heap.size, 0, none⟩) (Nat.le_refl _) _).setCell (p := ⟨w1.heap.size, 1, none⟩) (Nat.le_refl _) _).setCell (p := ⟨w1.heap.size, 2, none⟩) (Nat.le_refl _) _
         have HKX := Lib.hid (show Blk wX w1.heap.size 128 #[.string (str n), .slice Ax fe.f.b.length cx, .int .i64 fe.f.safe] by rw [hwX]; exact ((hKA.set_ 0 _).set_ 1 _).set_ 2 _)
         have HRX := Lib.hid (show Rd wX wX.heap.size Ax (cells fe.f.b) by
          obtain ⟨A9, c9, h9, _, _, r9⟩ := (HD1.out.got _ hmem).shape
          simp only at h9 r9
          rw [hv] at h9
          injection h9 with h9 _ _
          rw [h9]
          exact (r9.below hbX).more hbX.size)
         have hXs : w1.heap.size + 1 ≤ wX.heap.size := HKX.out.lt
         have m1 : wX.cell? ⟨w1.heap.size, 1, none⟩ = some (.slice Ax fe.f.b.length cx) := HKX.out.cell 1
         have HBX := Lib.hid hbX
         have HWX := Lib.hid hwX
         have HSF := Lib.hid hsf
         clear hg hfo hKA hwX hbX hbA hDA hat1 hvr hbA6 e0 hsf
         go_upto_region 26 with (fail)
         rw [← HWX.out]
         clear k0 k1 k2 z0 z1 z2 e0' q0 q1 q2
         go_wp2_with (first | (at_builtin; refine wpList_append_any rfl (.tmp 89) (.tmp 91) 27 rfl (w1.heap.size + 1) 5 (.int .u8 0) 1 Tryz.underlying27 info_u8 rfl _ [] rfl (Own.nil _ _ _) wX.heap.size Ax fe.f.b.length cx (cells fe.f.b) rfl (cells_length _).symm HRX.out (bytes_oneCell _) (by unfold maxLen; simp; try omega) (by simp; try omega) hXs ?_; intro v1 y1 hv1 hg1 _; have hv1' : Bs y1 (w1.heap.size + 1) v1 fe.f.b := hv1; have hby1 : Below (w1.heap.size + 1) wX y1 := (Below.refl _ wX).grown hg1 hXs (fun j hj => by cases hj); obtain ⟨Av1, cv1, e1, _⟩ := bs_shape hv1'; subst e1; have HV1 := Lib.hid hv1'; have HY1 := Lib.hid hby1; have hys1 := hby1.size; clear hv1 hv1' hg1 hby1) | (at_builtin; go_must (refine wpList_append_any rfl (.tmp 93) (.tmp 94) 27 rfl (w1.heap.size + 1) 5 (.int .u8 0) 1 Tryz.underlying27 info_u8 rfl _ _ rfl HV1.out w1.heap.size Ap (flat ps).length cp (cells Q) rfl (by rw [cells_length]; exact HQL.out.symm) (HRQ.out.below (HBX.out.trans (HY1.out.mono (by omega)))) (bytes_oneCell _) (by have := HQL.out; simp only [cells_length, List.length_nil]; unfold maxLen; omega) (by have := HQL.out; simp only [cells_length, List.length_nil]; omega) (by omega) ?_; intro v2 y2 hv2 hg2 _; have hv2' : Bs y2 (w1.heap.size + 1) v2 (fe.f.b ++ Q) := (by unfold Bs; rw [cells_append]; exact hv2); have hby2 : Below (w1.heap.size + 1) wX y2 := HY1.out.grown hg2 (by omega) (fun j hj => (Own.lt HV1.out j hj).1); obtain ⟨Av2, cv2, e2, _⟩ := bs_shape hv2'; subst e2; have HV2 := Lib.hid hv2'; have HY2 := Lib.hid hby2; have hK2 : Blk y2 w1.heap.size 128 _ := (hby2.block w1.heap.size (by omega)).trans HKX.out; have n0 := hK2.cell 0; have n1 := hK2.cell 1; have n2 := hK2.cell 2; have n3 := hK2.frozen 1; clear hv2 hv2' hg2 hby2 hK2)))
         have hlen : (fe.f.b ++ Q).length = (fe.f.b.length + Q.length) := by simp
         have hv2 := HV2.out
         rw [hlen] at hv2
         have hb3 : Below w1.heap.size w1 (y2.setCell ⟨w1.heap.size, 1, none⟩ (.slice Av2 (fe.f.b.length + Q.length) cv2)) := (HBX.out.trans (HY2.out.mono (by omega))).setCell (p := ⟨w1.heap.size, 1, none⟩) (Nat.le_refl _) _
         obtain ⟨y3, hy3⟩ : ∃ y3, y3 = y2.setCell ⟨w1.heap.size, 1, none⟩ (.slice Av2 (fe.f.b.length + Q.length) cv2) := ⟨_, rfl⟩
         rw [← hy3] at hb3 ⊢
         have hvlo : ∀ k, (Value.slice Av2 (fe.f.b.length + Q.length) cv2).ownBlock = some k → w1.heap.size ≤ k := fun k hk => by have := (Own.lt hv2 k hk).1; omega
         have hgt : Got y3 base (.slice Av2 (fe.f.b.length + Q.length) cv2) (fe.f.b ++ Q) := ((Got.of_own hv2).mono (by have := HBW.out; omega)).kept (fun j hj => by
          rw [hy3]
          refine Below.heap_setCell y2 ⟨w1.heap.size, 1, none⟩ _ j ?_
          have := (Own.lt hv2 j hj).1
          show j ≠ w1.heap.size
          omega) (by rw [hy3]; simp)
         have HPT := Lib.hid (rput_any (HD1.out.below hb3) n ⟨.slice Av2 (fe.f.b.length + Q.length) cv2, ⟨fe.f.b ++ Q, fe.f.safe⟩⟩ hgt (by have := HSF.out; simp only [List.length_append]; omega) (by have := HL.out; omega))
         have HB3 := Lib.hid hb3
         have HVLO := Lib.hid hvlo
         clear hlen hv2 hb3 hy3 hvlo hgt HV2 n0 n1 n2 n3 m1
         refine HPT.out.mono ?_
         rintro e w4 ⟨⟨v, rfl⟩, vL4, hD4, hF4, hk4⟩
         have HEND := Lib.hid (app_end HB.out HF1.out HB3.out hD4 hF4 hk4 HVLO.out)
         have HEN := Lib.hid (rend_any false w4)
         clear hD4 hF4 hk4 HPT
         go_wp2_with fail
         refine HEN.out.mono ?_
         rintro e w' ⟨rfl, rfl⟩
         go_wp2_with fail
         go_ret
         rw [HRE.out]
         exact ⟨rfl, HEND.out⟩
       | true =>
        have hap := cut_gone hgo
        have hpy : p.cut.2.1 = yr := by rw [hap.2]; exact (HYR.out.1 hap.1).2.symm
        have HRE := Lib.hid (show R = (50, ⟨p.cut.2.2, room, asPut n ⟨(fOf n (sec RF.f es)).b ++ upTo yr (flat ps), (fOf n (sec RF.f es)).safe⟩ (sec RF.f es)⟩) by rw [HRE.out, hgo, hpy]; rfl)
        clear hap hpy
        rw [hgo] at HGO
        clear hgo
        go_wp2_with fail
        refine HGO.out.mono ?_
        rintro e w1 ⟨rfl, hD1, hF1, -⟩
        have hs1 := hF1.size
        have hrq1 : Rd w1 w1.heap.size Ap (cells (flat ps)) := rd_block HVR.out (fun ad e => hF1.block ad.block (HLO.out ad e).2 (fun hm => by have h1 := (H.out.lt _ hm).2; have h2 := (HLO.out ad e).1; omega)) hs1
        have hmr := rmod_any yr ((flat ps).length + 1 : Int) HYR.out.2 (by omega) w1
        obtain ⟨m, hm⟩ : ∃ m : Nat, yr % ((flat ps).length + 1 : Int) = (m : Int) := ⟨(yr % ((flat ps).length + 1 : Int)).toNat, by have := Int.emod_nonneg yr (show ((flat ps).length + 1 : Int) ≠ 0 by omega); omega⟩
        have hml : m ≤ (flat ps).length := by have := Int.emod_lt_of_pos yr (show (0 : Int) < ((flat ps).length + 1 : Int) by omega); omega
        have hup : upTo yr (flat ps) = (flat ps).take m := by unfold upTo; rw [hm]; rfl
        rw [hm] at hmr
        have HMR := Lib.hid hmr
        have hcut := fun W : World => run_cut (P := Tryz.prog) Tryz.underlying27 info_u8 Ap (flat ps).length cp 0 m (by omega) (by omega) 0 (m : Int) rfl rfl W
        rw [hup] at HRE
        obtain ⟨Q, hQ⟩ : ∃ Q, Q = (flat ps).take m := ⟨_, rfl⟩
        have hQl : Q.length = m := by rw [hQ, List.length_take]; omega
        have hrq : Rd w1 w1.heap.size Ap (cells Q) := by rw [hQ]; unfold cells; rw [List.map_take]; exact Rd.take hrq1 m
        rw [← hQ] at HRE
        clear hmr hm hup hrq1 hQ
        have HRQ := Lib.hid hrq
        have HQL := Lib.hid hQl
        have hQ9 : Q.length ≤ 274877906944 := by omega
        clear hQl
        have HF1 := Lib.hid hF1
        have HD1 := Lib.hid hD1
        clear hD1 hF1 hrq HGO
        go_wp2_with fail
        refine HMR.out.mono ?_
        rintro e w' ⟨rfl, rfl⟩
        go_wp2_with fail
        clear hcut HMR
        obtain ⟨wA, hwA⟩ : ∃ wA, wA = w1.alloc (.cells #[.string (str n), .slice none 0 0, .int .i64 0] 128) := ⟨_, rfl⟩
        have hbA : Below w1.heap.size w1 wA := by rw [hwA]; exact (Below.refl _ w1).alloc (Nat.le_refl _) _
        have HAT := Lib.hid (rat_any (HD1.out.below hbA) n (by have := HL.out; omega))
        have HWA := Lib.hid hwA
        have hsA : wA.heap.size = w1.heap.size + 1 := by rw [hwA]; simp
        rw [← hwA]
        refine HAT.out.mono ?_
        rintro e w' ⟨rfl, rfl⟩
        clear hwA HAT
        cases hg : asGet n es with
        | none =>
         rw [rAt_of_none hg]
         have hfo : fOf n (sec RF.f es) = ⟨[], 0⟩ := by unfold fOf; rw [asGet_rf hg]; rfl
         rw [hfo] at HRE
         have hKA : Blk wA w1.heap.size 128 #[.string (str n), .slice none 0 0, .int .i64 0] := by rw [HWA.out]; exact Blk.new w1 128 _
         obtain ⟨wX, hwX⟩ : ∃ wX, wX = wA := ⟨_, rfl⟩
         have hbX : Below w1.heap.size w1 wX := by rw [hwX]; exact hbA
         have HKX := Lib.hid (show Blk wX w1.heap.size 128 #[.string (str n), .slice none ([] : List UInt8).length 0, .int .i64 0] by rw [hwX]; exact hKA)
         have HRX := Lib.hid (show Rd wX wX.heap.size none (cells ([] : List UInt8)) from Rd.none_)
         have hXs : w1.heap.size + 1 ≤ wX.heap.size := HKX.out.lt
         have m1 : wX.cell? ⟨w1.heap.size, 1, none⟩ = some (.slice none ([] : List UInt8).length 0) := HKX.out.cell 1
         have HBX := Lib.hid hbX
         rw [← hwX]
         clear hg hfo hKA hwX hbX hbA
         go_wp2_with (first | (at_builtin; refine wpList_append_any rfl (.tmp 89) (.tmp 91) 27 rfl (w1.heap.size + 1) 5 (.int .u8 0) 1 Tryz.underlying27 info_u8 rfl _ [] rfl (Own.nil _ _ _) wX.heap.size none ([] : List UInt8).length 0 (cells ([] : List UInt8)) rfl (cells_length _).symm HRX.out (bytes_oneCell _) (by unfold maxLen; simp; try omega) (by simp; try omega) hXs ?_; intro v1 y1 hv1 hg1 _; have hv1' : Bs y1 (w1.heap.size + 1) v1 ([] : List UInt8) := hv1; have hby1 : Below (w1.heap.size + 1) wX y1 := (Below.refl _ wX).grown hg1 hXs (fun j hj => by cases hj); obtain ⟨Av1, cv1, e1, _⟩ := bs_shape hv1'; subst e1; have HV1 := Lib.hid hv1'; have HY1 := Lib.hid hby1; have hys1 := hby1.size; clear hv1 hv1' hg1 hby1) | (at_builtin; go_must (refine wpList_append_any rfl (.tmp 93) (.tmp 94) 27 rfl (w1.heap.size + 1) 5 (.int .u8 0) 1 Tryz.underlying27 info_u8 rfl _ _ rfl HV1.out w1.heap.size Ap m cp (cells Q) rfl (by rw [cells_length]; exact HQL.out.symm) (HRQ.out.below (HBX.out.trans (HY1.out.mono (by omega)))) (bytes_oneCell _) (by have := HQL.out; simp only [cells_length, List.length_nil]; unfold maxLen; omega) (by have := HQL.out; simp only [cells_length, List.length_nil]; omega) (by omega) ?_; intro v2 y2 hv2 hg2 _; have hv2' : Bs y2 (w1.heap.size + 1) v2 (([] : List UInt8) ++ Q) := (by unfold Bs; rw [cells_append]; exact hv2); have hby2 : Below (w1.heap.size + 1) wX y2 := HY1.out.grown hg2 (by omega) (fun j hj => (Own.lt HV1.out j hj).1); obtain ⟨Av2, cv2, e2, _⟩ := bs_shape hv2'; subst e2; have HV2 := Lib.hid hv2'; have HY2 := Lib.hid hby2; have hK2 : Blk y2 w1.heap.size 128 _ := (hby2.block w1.heap.size (by omega)).trans HKX.out; have n0 := hK2.cell 0; have n1 := hK2.cell 1; have n2 := hK2.cell 2; have n3 := hK2.frozen 1; clear hv2 hv2' hg2 hby2 hK2)))
         have hlen : (([] : List UInt8) ++ Q).length = Q.length := by simp
         have hv2 := HV2.out
         rw [hlen] at hv2
         have hb3 : Below w1.heap.size w1 (y2.setCell ⟨w1.heap.size, 1, none⟩ (.slice Av2 Q.length cv2)) := (HBX.out.trans (HY2.out.mono (by omega))).setCell (p := ⟨w1.heap.size, 1, none⟩) (Nat.le_refl _) _
         obtain ⟨y3, hy3⟩ : ∃ y3, y3 = y2.setCell ⟨w1.heap.size, 1, none⟩ (.slice Av2 Q.length cv2) := ⟨_, rfl⟩
         rw [← hy3] at hb3 ⊢
         have hvlo : ∀ k, (Value.slice Av2 Q.length cv2).ownBlock = some k → w1.heap.size ≤ k := fun k hk => by have := (Own.lt hv2 k hk).1; omega
         have hgt : Got y3 base (.slice Av2 Q.length cv2) (([] : List UInt8) ++ Q) := ((Got.of_own hv2).mono (by have := HBW.out; omega)).kept (fun j hj => by
          rw [hy3]
          refine Below.heap_setCell y2 ⟨w1.heap.size, 1, none⟩ _ j ?_
          have := (Own.lt hv2 j hj).1
          show j ≠ w1.heap.size
          omega) (by rw [hy3]; simp)
         have HPT := Lib.hid (rput_any (HD1.out.below hb3) n ⟨.slice Av2 Q.length cv2, ⟨([] : List UInt8) ++ Q, 0⟩⟩ hgt (Nat.zero_le _) (by have := HL.out; omega))
         have HB3 := Lib.hid hb3
         have HVLO := Lib.hid hvlo
         clear hlen hv2 hb3 hy3 hvlo hgt HV2 n0 n1 n2 n3 m1
         refine HPT.out.mono ?_
         rintro e w4 ⟨⟨v, rfl⟩, vL4, hD4, hF4, hk4⟩
         have HEND := Lib.hid (app_end HB.out HF1.out HB3.out hD4 hF4 hk4 HVLO.out)
         have HEN := Lib.hid (rend_any true w4)
         clear hD4 hF4 hk4 HPT
         go_wp2_with fail
         refine HEN.out.mono ?_
         rintro e w' ⟨rfl, rfl⟩
         go_wp2_with fail
         go_ret
         rw [HRE.out]
         exact ⟨rfl, HEND.out⟩
        | some fe =>
         obtain ⟨k, hk, ek, hek⟩ := rAt_of_get hg
         rw [ek]
         have hfo : fOf n (sec RF.f es) = fe.f := by unfold fOf; rw [asGet_rfs hg]; rfl
         rw [hfo] at HRE
         have hDA := HD1.out.below hbA
         obtain ⟨A1, c1', hvL1, hlc1, hcm1, hat1⟩ := hDA.shape
         obtain ⟨b, hA1, hbl, q0, q1, q2, -, -⟩ := hat1 k hk
         have hmem : (n, fe) ∈ es := by rw [← hek]; exact List.getElem_mem hk
         rw [hek] at q0 q1 q2
         obtain ⟨Ax, cx, hv, hvl, hvc, hvr⟩ := (hDA.got _ hmem).shape
         simp only at hv hvl hvr q0 q1 q2
         rw [hv] at q1
         have hkI : (0 : Int) ≤ (k : Int) := by omega
         have hkL : (k : Int) < (es.length : Int) := by omega
         obtain ⟨xA, yA, hbA6, -⟩ := hDA.blk
         have e0 := hbA6.cell 0
         rw [hvL1, hA1] at e0
         have e0' : wA.cell? ⟨g, 0, none⟩ = some (.slice (some ⟨b, 0, none⟩) es.length c1') := e0
         have hfl2 : fe.f.b.length ≤ 549755813888 := HRD.out.2.2 _ hmem
         have hsf : fe.f.safe ≤ fe.f.b.length := H.out.safe _ hmem
         have hKA : Blk wA w1.heap.size 128 #[.string (str n), .slice none 0 0, .int .i64 0] := by rw [HWA.out]; exact Blk.new w1 128 _
         have k0 := hKA.frozen 0
         have k1 := hKA.frozen 1
         have k2 := hKA.frozen 2
         have z0 : wA.cell? ⟨w1.heap.size, 0, none⟩ = some (.string (str n)) := hKA.cell 0
         have z1 : wA.cell? ⟨w1.heap.size, 1, none⟩ = some (.slice none 0 0) := hKA.cell 1
         have z2 : wA.cell? ⟨w1.heap.size, 2, none⟩ = some (.int .i64 0) := hKA.cell 2
         obtain ⟨wX, hwX⟩ : ∃ wX, wX = ((wA.setCell ⟨w1.heap.size, 0, none⟩ (.string (str n))).setCell ⟨w1.heap.size, 1, none⟩ (.slice Ax fe.f.b.length cx)).setCell ⟨w1.heap.size, 2, none⟩ (.int .i64 fe.f.safe) := ⟨_, rfl⟩
         have hbX : Below w1.heap.size w1 wX := by rw [hwX]; exact ((hbA.setCell (p := ⟨w1.heap.size, 0, none⟩) (Nat.le_refl _) _).setCell (p := ⟨w1.heap.size, 1, none⟩) (Nat.le_refl _) _).setCell (p := ⟨w1.heap.size, 2, none⟩) (Nat.le_refl _) _
         have HKX := Lib.hid (show Blk wX w1.heap.size 128 #[.string (str n), .slice Ax fe.f.b.length cx, .int .i64 fe.f.safe] by rw [hwX]; exact ((hKA.set_ 0 _).set_ 1 _).set_ 2 _)
         have HRX := Lib.hid (show Rd wX wX.heap.size Ax (cells fe.f.b) by
          obtain ⟨A9, c9, h9, _, _, r9⟩ := (HD1.out.got _ hmem).shape
          simp only at h9 r9
          rw [hv] at h9
          injection h9 with h9 _ _
          rw [h9]
          exact (r9.below hbX).more hbX.size)
         have hXs : w1.heap.size + 1 ≤ wX.heap.size := HKX.out.lt
         have m1 : wX.cell? ⟨w1.heap.size, 1, none⟩ = some (.slice Ax fe.f.b.length cx) := HKX.out.cell 1
         have HBX := Lib.hid hbX
         have HWX := Lib.hid hwX
         have HSF := Lib.hid hsf
         clear hg hfo hKA hwX hbX hbA hDA hat1 hvr hbA6 e0 hsf
         go_upto_region 26 with (fail)
         rw [← HWX.out]
         clear k0 k1 k2 z0 z1 z2 e0' q0 q1 q2
         go_wp2_with (first | (at_builtin; refine wpList_append_any rfl (.tmp 89) (.tmp 91) 27 rfl (w1.heap.size + 1) 5 (.int .u8 0) 1 Tryz.underlying27 info_u8 rfl _ [] rfl (Own.nil _ _ _) wX.heap.size Ax fe.f.b.length cx (cells fe.f.b) rfl (cells_length _).symm HRX.out (bytes_oneCell _) (by unfold maxLen; simp; try omega) (by simp; try omega) hXs ?_; intro v1 y1 hv1 hg1 _; have hv1' : Bs y1 (w1.heap.size + 1) v1 fe.f.b := hv1; have hby1 : Below (w1.heap.size + 1) wX y1 := (Below.refl _ wX).grown hg1 hXs (fun j hj => by cases hj); obtain ⟨Av1, cv1, e1, _⟩ := bs_shape hv1'; subst e1; have HV1 := Lib.hid hv1'; have HY1 := Lib.hid hby1; have hys1 := hby1.size; clear hv1 hv1' hg1 hby1) | (at_builtin; go_must (refine wpList_append_any rfl (.tmp 93) (.tmp 94) 27 rfl (w1.heap.size + 1) 5 (.int .u8 0) 1 Tryz.underlying27 info_u8 rfl _ _ rfl HV1.out w1.heap.size Ap m cp (cells Q) rfl (by rw [cells_length]; exact HQL.out.symm) (HRQ.out.below (HBX.out.trans (HY1.out.mono (by omega)))) (bytes_oneCell _) (by have := HQL.out; simp only [cells_length, List.length_nil]; unfold maxLen; omega) (by have := HQL.out; simp only [cells_length, List.length_nil]; omega) (by omega) ?_; intro v2 y2 hv2 hg2 _; have hv2' : Bs y2 (w1.heap.size + 1) v2 (fe.f.b ++ Q) := (by unfold Bs; rw [cells_append]; exact hv2); have hby2 : Below (w1.heap.size + 1) wX y2 := HY1.out.grown hg2 (by omega) (fun j hj => (Own.lt HV1.out j hj).1); obtain ⟨Av2, cv2, e2, _⟩ := bs_shape hv2'; subst e2; have HV2 := Lib.hid hv2'; have HY2 := Lib.hid hby2; have hK2 : Blk y2 w1.heap.size 128 _ := (hby2.block w1.heap.size (by omega)).trans HKX.out; have n0 := hK2.cell 0; have n1 := hK2.cell 1; have n2 := hK2.cell 2; have n3 := hK2.frozen 1; clear hv2 hv2' hg2 hby2 hK2)))
         have hlen : (fe.f.b ++ Q).length = (fe.f.b.length + Q.length) := by simp
         have hv2 := HV2.out
         rw [hlen] at hv2
         have hb3 : Below w1.heap.size w1 (y2.setCell ⟨w1.heap.size, 1, none⟩ (.slice Av2 (fe.f.b.length + Q.length) cv2)) := (HBX.out.trans (HY2.out.mono (by omega))).setCell (p := ⟨w1.heap.size, 1, none⟩) (Nat.le_refl _) _
         obtain ⟨y3, hy3⟩ : ∃ y3, y3 = y2.setCell ⟨w1.heap.size, 1, none⟩ (.slice Av2 (fe.f.b.length + Q.length) cv2) := ⟨_, rfl⟩
         rw [← hy3] at hb3 ⊢
         have hvlo : ∀ k, (Value.slice Av2 (fe.f.b.length + Q.length) cv2).ownBlock = some k → w1.heap.size ≤ k := fun k hk => by have := (Own.lt hv2 k hk).1; omega
         have hgt : Got y3 base (.slice Av2 (fe.f.b.length + Q.length) cv2) (fe.f.b ++ Q) := ((Got.of_own hv2).mono (by have := HBW.out; omega)).kept (fun j hj => by
          rw [hy3]
          refine Below.heap_setCell y2 ⟨w1.heap.size, 1, none⟩ _ j ?_
          have := (Own.lt hv2 j hj).1
          show j ≠ w1.heap.size
          omega) (by rw [hy3]; simp)
         have HPT := Lib.hid (rput_any (HD1.out.below hb3) n ⟨.slice Av2 (fe.f.b.length + Q.length) cv2, ⟨fe.f.b ++ Q, fe.f.safe⟩⟩ hgt (by have := HSF.out; simp only [List.length_append]; omega) (by have := HL.out; omega))
         have HB3 := Lib.hid hb3
         have HVLO := Lib.hid hvlo
         clear hlen hv2 hb3 hy3 hvlo hgt HV2 n0 n1 n2 n3 m1
         refine HPT.out.mono ?_
         rintro e w4 ⟨⟨v, rfl⟩, vL4, hD4, hF4, hk4⟩
         have HEND := Lib.hid (app_end HB.out HF1.out HB3.out hD4 hF4 hk4 HVLO.out)
         have HEN := Lib.hid (rend_any true w4)
         clear hD4 hF4 hk4 HPT
         go_wp2_with fail
         refine HEN.out.mono ?_
         rintro e w' ⟨rfl, rfl⟩
         go_wp2_with fail
         go_ret
         rw [HRE.out]
         exact ⟨rfl, HEND.out⟩
end
end Go.Proofs.YteehkcpokgeipaaGreatDoor
