/- pavaneref23.open: the walk. Condition: the bytes can be read. -/
import Derived.Test.YteehkcpokgeipaaGreatDoorKeepOpen
import Derived.Test.YteehkcpokgeipaaGreatDoorKeepRPieces
import Derived.Deep.DeepMust
set_option linter.unusedVariables false
set_option linter.unusedSimpArgs false
namespace Go.Proofs.YteehkcpokgeipaaGreatDoor
open Go.RowKit Oct
theorem grown_past_lit {w w' : World} {o : Obj} {r : Option Nat} (h : (w.alloc o).grownBy w' r) : w.grownBy w' r :=
 ⟨h.os, h.tape, h.output, by have := h.size; simp at this; omega, fun i hi hne => (h.block i (by simp; omega) hne).trans (Below.heap_alloc w o i hi)⟩
theorem Fresh.less {v : Value} {r : Option Nat} {n m : Nat} (h : Fresh v r n) (hm : m ≤ n) : Fresh v r m := by
 rcases h with h | ⟨g, h1, h2⟩
 ·exact .inl h
 ·exact .inr ⟨g, h1, by omega⟩
set_option maxHeartbeats 4000000 in
set_option maxRecDepth 100000 in
theorem rkfile_any (A : Option Addr) (l : List UInt8) (c : Nat) (w : World) (hr : Rd w w.heap.size A (cells l)) (hlc : l.length ≤ c) (hc : c ≤ 9223372036854775807) (hl : l.length ≤ 1099511627776) :
  Calls Tryz.prog 73 #[.slice A l.length c] w fun e w' => ∃ v xs, e = .returned v ∧ GotRows w' w.heap.size v xs (fileL l) ∧ Below w.heap.size w w' := by
 have HCK := Lib.hid (rchunks_any A l l.length c rfl w hr hlc ⟨hl, hc⟩)
 have HR := Lib.hid hr
 clear hr
 go_enter Tryz.func73, Tryz.ntmps73
 go_wp2_with fail
 refine HCK.out.mono ?_
 rintro e w1 ⟨v1, xs1, rfl, hg1, hb1⟩
 obtain ⟨A1, c1, rfl, hc1, hc2, hr1⟩ := hg1.own.shape
 have hx1 : xs1.length = (chunksL l).length := hg1.len
 have hs1 := hb1.size
 have HG1 := Lib.hid hg1
 have HB1 := Lib.hid hb1
 have HR1 := Lib.hid hr1
 have hcl : (chunksL l).length ≤ 2748779070 := by rw [chunksL_length]; omega
 have HX1 := Lib.hid hx1
 have hxl : xs1.length ≤ 2748779070 := by omega
 clear hg1 hb1 hr1 HCK hx1
 go_wp2_with fail
 go_loopw [3, 5, 6, 7] (fun o i _ _ wr => ∃ (k : Nat) (ys : List Value), k ≤ xs1.length ∧ i = .int .i64 k ∧ Hid (GotRows wr w1.heap.size o ys (((chunksL l).map closeS).take k)) ∧ Hid (Below w1.heap.size w1 wr)) (fun _ i _ _ _ => xs1.length - (intOf i).toNat)
 case atStart => exact ⟨0, [], by omega, rfl, Lib.hid (GotRows.nil _ _), Lib.hid (Below.refl _ _)⟩
 case round =>
  obtain ⟨k, ys, hk, rfl, HY, HB⟩ := hrel
  have hsB := HB.out.size
  have hyl : ys.length ≤ k := by have := HY.out.len; rw [List.length_take] at this; omega
  by_cases hlt : k < xs1.length
  ·have hlt2 : k < (chunksL l).length := by rw [← HX1.out]; exact hlt
   obtain ⟨ad, rfl, had, hcell⟩ := HR1.out.at_ hlt
   have hcell' : wr.cell? (ad.add k) = some xs1[k] := (World.cell?_of_block (w := w1) (by rw [block_of_add]; exact HB.out.block ad.block had)).trans hcell
   have hgk := (HG1.out.got k hlt hlt2).below HB.out (Nat.le_refl _)
   obtain ⟨Ak, ck, hvk, hk1, hk2, hrk⟩ := hgk.shape
   rw [hvk] at hcell'
   have hmem : (chunksL l)[k] ∈ chunksL l := List.getElem_mem hlt2
   have hkl : (chunksL l)[k].length ≤ 400 := by
    obtain ⟨j, _, hj⟩ := List.mem_map.1 hmem
    rw [← hj]
    exact ckL_le
   have HT : Hid (((chunksL l).map closeS).take (k + 1) = ((chunksL l).map closeS).take k ++ [closeS (chunksL l)[k]]) := Lib.hid (by
    rw [List.take_succ_eq_append_getElem (by rw [List.length_map]; exact hlt2), List.getElem_map])
   have HCL := Lib.hid (rclose_any Ak (chunksL l)[k] (chunksL l)[k].length ck rfl wr hrk (by omega))
   generalize (chunksL l)[k] = ch at hcell' hkl HT HCL hk1
   have hkI : (k : Int) < (xs1.length : Int) := by omega
   clear hgk hvk hrk hmem hcell
   go_wp2_with fail
   refine HCL.out.mono ?_
   rintro e w2 ⟨v2, rfl, hg2, hb2⟩
   obtain ⟨A2, c2, rfl, _, _, _⟩ := bs_shape hg2
   have HG2 := Lib.hid (Got.of_own hg2)
   have HB2 := Lib.hid hb2
   have hs2 := hb2.size
   have HO2 := Lib.hid (HY.out.below hb2 (Nat.le_refl _)).own
   obtain ⟨Ao, co, hov, _⟩ := HO2.out.shape
   subst hov
   clear hg2 hb2 HCL
   go_wp2_with (at_builtin; go_must (refine wpList_append_any rfl (.tmp 30) (.tmp 32) 54 rfl w1.heap.size 27 (.slice none 0 0) 24 Tryz.underlying54 info_bytes rfl _ ys rfl (HO2.out.alloc _) (w2.heap.size + 1) (some ⟨w2.heap.size, 0, none⟩) 1 1 [.slice A2 (closeS ch).length c2] rfl rfl (rd_lit w2 27 [.slice A2 (closeS ch).length c2]) (by simp [Value.oneCell']) (by unfold maxLen; omega) (by omega) (by simp; omega) ?_; intro v3 w3 hv3 hg3 hf3))
   have hpu := GotRows.push HY.out HB2.out HG2.out hsB hv3 (grown_past_lit hg3) (hf3.less (by simp))
   rw [← HT.out] at hpu
   obtain ⟨Ao3, co3, hov3, _⟩ := hv3.shape
   rw [List.length_append, List.length_singleton] at hov3
   subst hov3
   have HY3 := Lib.hid hpu
   have HB3 := Lib.hid ((HB.out.trans (HB2.out.mono hsB)).grown (grown_past_lit hg3) (by omega) (fun j hj => (HO2.out.lt j hj).1))
   clear hpu hv3 hg3 hf3
   go_wp2_with fail
   go_roundw
   case rel => exact ⟨k + 1, _, by omega, by go_num, HY3, HB3⟩
   case measure => simp [intOf]; omega
  ·have hke : k = xs1.length := by omega
   have e0 : ((chunksL l).map closeS).take k = (chunksL l).map closeS := List.take_of_length_le (by rw [List.length_map, ← HX1.out]; omega)
   rw [e0] at HY
   obtain ⟨Ao, co, hov, _⟩ := HY.out.own.shape
   subst hov
   have HW := Lib.hid (HB1.out.trans (HB.out.mono hs1))
   have hrw := HR.out.below HW.out
   have hws := HW.out.size
   have e1 : encI (xs1.length : Int) = enc (chunksL l).length := by unfold encI; rw [if_neg (by omega), HX1.out]; rfl
   have hU1 := ruint_tot (xs1.length : Int) (by omega) wr
   rw [e1] at hU1
   have HU1 := Lib.hid hU1
   have HRW := Lib.hid hrw
   have hl1 : (enc (chunksL l).length).length ≤ 10 := enc_len _ (by omega)
   have HL1 := Lib.hid hl1
   clear e0 e1 hU1 hrw hke hl1
   go_wp2_with fail
   refine HU1.out.mono ?_
   rintro e w2 ⟨v2, rfl, hv2, hb2⟩
   obtain ⟨A2, c2, rfl, _, _, _⟩ := bs_shape hv2
   have HV2 := Lib.hid hv2
   have HB2 := Lib.hid hb2
   have hs2 := hb2.size
   have HSU := Lib.hid (rsum_any A l l.length c w2.heap.size rfl w2 ((HRW.out.below (hb2.mono hws)).more (by omega)) (by omega))
   have hcs : Crc.sum l < 4294967296 := Crc.sum_lt l
   clear hv2 hb2 HU1
   go_wp2_with fail
   refine HSU.out.mono ?_
   rintro e w' ⟨rfl, rfl⟩
   have e2 : encI ((Crc.sum l : Nat) : Int) = enc (Crc.sum l) := by unfold encI; rw [if_neg (by omega)]; rfl
   have hU2 := ruint_tot ((Crc.sum l : Nat) : Int) (by omega) w2
   rw [e2] at hU2
   have HU2 := Lib.hid hU2
   have hl2 : (enc (Crc.sum l)).length ≤ 10 := enc_len _ (by omega)
   obtain ⟨S, hS⟩ : ∃ S, S = enc (Crc.sum l) := ⟨_, rfl⟩
   rw [← hS] at HU2 hl2
   obtain ⟨Nn, hNn⟩ : ∃ Nn, Nn = enc (chunksL l).length := ⟨_, rfl⟩
   rw [← hNn] at HV2 HL1 ⊢
   have hl1 := HL1.out
   have HSS := Lib.hid hS
   have HNN := Lib.hid hNn
   obtain ⟨sm, hsm⟩ : ∃ sm, sm = Crc.sum l := ⟨_, rfl⟩
   have HSM := Lib.hid hsm
   clear e2 hU2 HSU hS hNn
   go_wp2_with fail
   rw [← hsm] at HU2 ⊢
   have hsmb : sm < 4294967296 := by omega
   clear hsm
   refine HU2.out.mono ?_
   rintro e w3 ⟨v3, rfl, hv3, hb3⟩
   obtain ⟨A3, c3, rfl, _, _, hr3⟩ := bs_shape hv3
   have hs3 := hb3.size
   have HV2' := Lib.hid (Own.below HV2.out hb3 (Nat.le_refl _))
   have HB3 := Lib.hid (HB2.out.trans (hb3.mono hs2))
   have HR3 := Lib.hid hr3
   clear hv3 hb3 hr3 HU2 HV2
   go_wp2_with (at_builtin; go_must (refine wpList_append_any rfl (.tmp 47) (.tmp 48) 27 rfl wr.heap.size 5 (.int .u8 0) 1 Tryz.underlying27 info_u8 rfl _ _ rfl HV2'.out w3.heap.size A3 S.length c3 (cells S) rfl (cells_length _).symm HR3.out (bytes_oneCell _) (by simp only [cells_length]; unfold maxLen; omega) (by simp only [cells_length]; omega) (by omega) ?_; intro v4 w4 hv4 hg4 _; have hv4' : Bs w4 wr.heap.size v4 (Nn ++ S) := (by unfold Bs; rw [cells_append]; exact hv4); obtain ⟨A4, c4, e4, _, _, hr4⟩ := bs_shape hv4'; rw [List.length_append] at e4; subst e4; have HB4 := Lib.hid (HB3.out.grown hg4 (by omega) (fun j hj => (Own.lt HV2'.out j hj).1)); have HCL := Lib.hid (rclose_any A4 (Nn ++ S) (Nn.length + S.length) c4 (by rw [List.length_append]) w4 hr4 (by rw [List.length_append]; omega)); clear hv4 hv4' hg4 hr4))
   refine HCL.out.mono ?_
   rintro e w5 ⟨v5, rfl, hg5, hb5⟩
   obtain ⟨A5, c5, rfl, _, _, _⟩ := bs_shape hg5
   have hs4 := HB4.out.size
   have HG5 := Lib.hid ((Got.of_own hg5).mono hs4)
   have HB5 := Lib.hid (HB4.out.trans (hb5.mono hs4))
   have hs5 := HB5.out.size
   have HO5 := Lib.hid (HY.out.own.below HB5.out (Nat.le_refl _))
   have hyl2 : ys.length ≤ 2748779070 := by omega
   have HFS : Hid (closeS (Nn ++ S) = footS (chunksL l).length l) := Lib.hid (by rw [HNN.out, HSS.out]; rfl)
   clear hg5 hb5 HCL
   go_wp2_with (at_builtin; go_must (refine wpList_append_any rfl (.tmp 53) (.tmp 55) 54 rfl w1.heap.size 27 (.slice none 0 0) 24 Tryz.underlying54 info_bytes rfl _ ys rfl (HO5.out.alloc _) (w5.heap.size + 1) (some ⟨w5.heap.size, 0, none⟩) 1 1 [.slice A5 (closeS (Nn ++ S)).length c5] rfl rfl (rd_lit w5 27 [.slice A5 (closeS (Nn ++ S)).length c5]) (by simp [Value.oneCell']) (by unfold maxLen; omega) (by omega) (by simp; omega) ?_; intro v6 w6 hv6 hg6 hf6))
   have hpu := GotRows.push HY.out HB5.out HG5.out hsB hv6 (grown_past_lit hg6) (hf6.less (by simp))
   rw [HFS.out] at hpu
   obtain ⟨Ao6, co6, hov6, _⟩ := hv6.shape
   subst hov6
   have HY6 := Lib.hid hpu
   have HB6 := Lib.hid (((HB.out.trans (HB5.out.mono hsB)).grown (grown_past_lit hg6) (by omega) (fun j hj => (HO5.out.lt j hj).1)))
   clear hpu hv6 hg6 hf6
   go_ret
   exact ⟨_, _, rfl, HY6.out.mono hs1, HB1.out.trans (HB6.out.mono hs1)⟩
end Go.Proofs.YteehkcpokgeipaaGreatDoor
set_option linter.unusedVariables false
set_option linter.unusedSimpArgs false
namespace Go.Proofs.YteehkcpokgeipaaGreatDoor
open Go.RowKit Oct
theorem bs_rd {w : World} {base n c : Nat} {A : Option Addr} {l : List UInt8} (h : Bs w base (.slice A n c) l) : Rd w w.heap.size A (cells l) := by
 obtain ⟨A', c', e, _, _, hr⟩ := bs_shape h
 injection e with e1 _ _
 rw [e1]
 exact hr
set_option maxHeartbeats 8000000 in
set_option maxRecDepth 100000 in
theorem rkopen_any (A : Option Addr) (b : List UInt8) (c : Nat) (ix : Int) (w : World) (hr : Rd w w.heap.size A (cells b)) (hlc : b.length ≤ c) (hc : c ≤ 9223372036854775807) (hl : b.length ≤ 40000000) :
  Calls Tryz.prog 84 #[.slice A b.length c, .int .i64 ix] w fun e w' => ∃ V i t z l, e = .returned (.tuple #[V, .bool (openB b ix)]) ∧ SnapR w' w.heap.size V i t z l ∧ (openB b ix = true → i = oI (allS b) ∧ t = oT (allS b) ∧ z = oZ (allS b) ∧ l = oD (allS b)) ∧ Below w.heap.size w w' := by
 obtain ⟨w0, hw0⟩ : ∃ w0, w0 = w.alloc (.cells #[.int .i64 0, .int .i64 0, .slice none 0 0, .slice none 0 0] 29) := ⟨_, rfl⟩
 have hb0 : Below w.heap.size w w0 := by rw [hw0]; exact (Below.refl _ w).alloc (Nat.le_refl _) _
 have hK0 : Blk w0 w.heap.size 29 #[.int .i64 0, .int .i64 0, .slice none 0 0, .slice none 0 0] := by rw [hw0]; exact Blk.new w 29 _
 have hs0 : w.heap.size < w0.heap.size := hK0.lt
 have hr0 : Rd w0 w0.heap.size A (cells b) := (hr.below hb0).more (by omega)
 have HRA := Lib.hid hr
 have HRA := Lib.hid hr
 have HRO := Lib.hid (rrows_any A b b.length c rfl w0 hr0 hlc ⟨by omega, hc⟩)
 have HW0 := Lib.hid hw0
 have HB0 := Lib.hid hb0
 have HK0 := Lib.hid hK0
 have HR0 := Lib.hid hr0
 have hal := allS_len b
 have hrn := rowsS_len b
 have hrows : ∀ r ∈ (rowsS b).1, r.length ≤ 40000000 := fun r hr => by
  have h2 := rowsF_sum b (b.length + 1) 0 (by omega)
  have h3 : r.length ≤ (rowsS b).1.flatten.length := mem_flat_le hr
  unfold rowsS at h3
  omega
 have hrfl : (rowsS b).1.flatten.length ≤ 40000000 := by
  have h2 := rowsF_sum b (b.length + 1) 0 (by omega)
  unfold rowsS
  omega
 have HRW := Lib.hid hrows
 have HRL := Lib.hid hrfl
 obtain ⟨re, hre⟩ : ∃ re, re = (rowsS b).2.2 := ⟨_, rfl⟩
 obtain ⟨ru, hru⟩ : ∃ ru, ru = (rowsS b).2.1 := ⟨_, rfl⟩
 obtain ⟨rs, hrs⟩ : ∃ rs, rs = (rowsS b).1 := ⟨_, rfl⟩
 obtain ⟨al, hal2⟩ : ∃ al, al = allS b := ⟨_, rfl⟩
 have halr : al = (rs.take (rs.length - 1)).flatten := by rw [hal2, hrs]; rfl
 rw [← hre, ← hru, ← hrs] at HRO
 rw [← hrs] at HRW HRL hrn
 rw [← hal2] at hal
 have hO : openB b ix = (decide (re = 0) && decide (2 ≤ rs.length) && decide ((fileL al).flatten = b) && (decide (oE al = 0) && decide (oI al = ix))) := by unfold openB; rw [hre, hrs, hal2]
 obtain ⟨ob, hob⟩ : ∃ ob, ob = openB b ix := ⟨_, rfl⟩
 rw [← hob, ← hal2]
 have HOB := Lib.hid (hob.trans hO)
 have HAL := Lib.hid halr
 clear hr hw0 hb0 hK0 hr0 hrows hre hru hrs hal2 halr hO hob hrfl
 go_enter Tryz.func84, Tryz.ntmps84
 go_upto_region 1 with (fail)
 rw [← HW0.out]
 go_wp2_with fail
 refine HRO.out.mono ?_
 rintro e w1 ⟨v1, xs, rfl, hg1, hb1⟩
 obtain ⟨A1, c1, rfl, hc1a, hc1b, hr1⟩ := hg1.own.shape
 have hx1 : xs.length = rs.length := hg1.len
 have HB1 := Lib.hid (HB0.out.trans (hb1.mono (by omega)))
 have hs1 := hb1.size
 have hK1 : Blk w1 w.heap.size 29 _ := HK0.out.below hb1 hs0
 have HK1 := Lib.hid hK1
 have HR1 := Lib.hid hr1
 have HG1 := Lib.hid hg1
 have HRB1 := Lib.hid ((HR0.out.below hb1).more hs1)
 have HX1 := Lib.hid hx1
 obtain ⟨d0, d1, d2, d3, f0, f1, f2, f3⟩ := blk4_cells hK1
 have hxl : xs.length ≤ 40000000 := by omega
 clear hg1 hb1 hr1 hK1 HRO hx1
 by_cases hbad : re ≠ 0 ∨ (xs.length : Int) < 2
 ·have hfalse : (decide (re = 0) && decide (2 ≤ rs.length) && decide ((fileL al).flatten = b) && (decide (oE al = 0) && decide (oI al = ix))) = false := by
   rcases hbad with h | h
   ·rw [decide_eq_false h]; rfl
   ·rw [decide_eq_false (show ¬ 2 ≤ rs.length by have := HX1.out; omega), Bool.and_false]; rfl
  have hobf : ob = false := HOB.out.trans hfalse
  subst hobf
  have KF := (((Blk.set_ HK1.out 0 (.int .i64 0)).set_ 1 (.int .i64 0)).set_ 2 (.slice none 0 0)).set_ 3 (.slice none 0 0)
  have hbF := Lib.hid ((((HB1.out.setCell (p := ⟨w.heap.size, 0, none⟩) (Nat.le_refl _) (.int .i64 0)).setCell (p := ⟨w.heap.size, 1, none⟩) (Nat.le_refl _) (.int .i64 0)).setCell (p := ⟨w.heap.size, 2, none⟩) (Nat.le_refl _) (.slice none 0 0)).setCell (p := ⟨w.heap.size, 3, none⟩) (Nat.le_refl _) (.slice none 0 0))
  replace KF := Lib.hid KF
  clear hfalse
  by_cases h1 : re = 0
  ·have h2 : (xs.length : Int) < 2 := by
    rcases hbad with h | h
    ·exact absurd h1 h
    ·exact h
   subst h1
   clear hbad
   go_wp2_with fail
   refine bodyPost_ret (results_open (fn := Tryz.f84) rfl _ _ w.heap.size _ _ _ _ rfl KF.out) rfl ?_
   exact ⟨_, 0, 0, [], [], rfl, snapR_zero _ _, (fun h => by cases h), hbF.out⟩
  ·clear hbad
   go_wp2_with fail
   refine bodyPost_ret (results_open (fn := Tryz.f84) rfl _ _ w.heap.size _ _ _ _ rfl KF.out) rfl ?_
   exact ⟨_, 0, 0, [], [], rfl, snapR_zero _ _, (fun h => by cases h), hbF.out⟩
 ·obtain rfl : re = 0 := by
   by_cases h : re = 0
   ·exact h
   ·exact absurd (.inl h) hbad
  have h2 : ¬ (xs.length : Int) < 2 := fun h => hbad (.inr h)
  clear hbad d0 d1 d2 d3 f0 f1 f2 f3
  go_wp2_with fail
  go_loopw [9, 10] (fun v i wr => ∃ k : Nat, k ≤ xs.length - 1 ∧ i = .int .i64 k ∧ Hid (Bs wr w1.heap.size v (rs.take k).flatten) ∧ Hid (Below w1.heap.size w1 wr)) (fun _ i _ => xs.length - 1 - (intOf i).toNat)
  case atStart => exact ⟨0, by omega, rfl, Lib.hid (by show Own _ _ _ _ _; exact Own.nil _ _ _), Lib.hid (Below.refl _ _)⟩
  case round =>
   obtain ⟨k, hk, rfl, HV, HB⟩ := hrel
   have hsB := HB.out.size
   obtain ⟨Av, cv, rfl, hcv1, hcv2, hrv⟩ := bs_shape HV.out
   by_cases hlt : k < xs.length - 1
   ·have hlt1 : k < xs.length := by omega
    have hlt2 : k < rs.length := by rw [← HX1.out]; exact hlt1
    obtain ⟨ad, rfl, had, hcell⟩ := HR1.out.at_ hlt1
    have hcell' : wr.cell? (ad.add k) = some xs[k] := (World.cell?_of_block (w := w1) (by rw [block_of_add]; exact HB.out.block ad.block had)).trans hcell
    have hgk := (HG1.out.got k hlt1 hlt2).below HB.out (Nat.le_refl _)
    obtain ⟨Ak, ck, hvk, hk1, hk2, hrk⟩ := hgk.shape
    rw [hvk] at hcell'
    have hkl := HRW.out _ (List.getElem_mem hlt2)
    have hfl := take_flat_le rs k
    have hfl2 := HRL.out
    have HT : Hid ((rs.take (k + 1)).flatten = (rs.take k).flatten ++ rs[k]) := Lib.hid (by rw [List.take_succ_eq_append_getElem hlt2, List.flatten_append]; simp)
    obtain ⟨P, hP⟩ : ∃ P, P = (rs.take k).flatten := ⟨_, rfl⟩
    rw [← hP] at HV HT hfl hcv1 ⊢
    have HP := Lib.hid hP
    have HRK := Lib.hid hrk
    generalize rs[k] = ch at hcell' hkl HT HRK hk1
    have hkI : (k : Int) < (xs.length : Int) - 1 := by omega
    have hkI2 : (k : Int) < (xs.length : Int) := by omega
    clear hgk hvk hcell hP hrv hrk
    go_wp2_with (at_builtin; go_must (refine wpList_append_any rfl (.tmp 37) (.tmp 41) 27 rfl w1.heap.size 5 (.int .u8 0) 1 Tryz.underlying27 info_u8 rfl _ _ rfl HV.out wr.heap.size Ak ch.length ck (cells ch) rfl (cells_length _).symm HRK.out (bytes_oneCell _) (by simp only [cells_length]; unfold maxLen; omega) (by simp only [cells_length]; omega) (by omega) ?_; intro v3 w3 hv3 hg3 hf3))
    have hv4 : Bs w3 w1.heap.size v3 (P ++ ch) := (by unfold Bs; rw [cells_append]; exact hv3)
    obtain ⟨Ao3, co3, hov3, _⟩ := bs_shape hv4
    subst hov3
    have HY3 := Lib.hid (show Bs w3 w1.heap.size (.slice Ao3 (P ++ ch).length co3) (rs.take (k + 1)).flatten by rw [HT.out]; exact hv4)
    have HB3 := Lib.hid (HB.out.grown hg3 (by omega) (fun j hj => (Own.lt HV.out j hj).1))
    clear hv3 hg3 hf3 hv4
    go_wp2_with fail
    go_roundw
    case rel => exact ⟨k + 1, by omega, by go_num, HY3, HB3⟩
    case measure => simp [intOf]; omega
   ·obtain rfl : k = xs.length - 1 := by omega
    have hall : (rs.take (xs.length - 1)).flatten = al := by rw [HAL.out, HX1.out]
    rw [hall] at HV hrv hcv1 ⊢
    have hg : ¬ ((xs.length - 1 : Nat) : Int) < (xs.length : Int) - 1 := by omega
    have HF := Lib.hid (rkfile_any Av al cv wr hrv hcv1 (by omega) (by omega))
    have HB2 := Lib.hid (HB1.out.trans (HB.out.mono (by omega)))
    have HK2 := Lib.hid (HK1.out.below HB.out (by omega))
    have HRB2 := Lib.hid ((HRB1.out.below HB.out).more hsB)
    have HR2 := Lib.hid hrv
    clear hall hrv HV HB HR1 HG1 HK1 HB1 HRB1
    go_wp2_with fail
    refine HF.out.mono ?_
    rintro e w3 ⟨v3, ys, rfl, hg3, hb3⟩
    obtain ⟨A3, c3, rfl, hc3a, hc3b, hr3⟩ := hg3.own.shape
    have hs3 := hb3.size
    have hyl : ys.length ≤ 100001 := by rw [hg3.len]; unfold fileL; rw [List.length_append, List.length_map, chunksL_length, List.length_singleton]; omega
    have hfl3 : (fileL al).flatten.length ≤ 104863648616 := by
     have h1 := flat_len_le (M := 1048616) (fun r hr => fileL_row2 (l := al) hr)
     have h2 : (fileL al).length ≤ 100001 := by rw [← hg3.len]; exact hyl
     have h3 := Nat.mul_le_mul_right 1048616 h2
     omega
    have hfr : ∀ r ∈ fileL al, r.length ≤ 1048616 := fun r hr => fileL_row2 hr
    have hy3 := hg3.len
    obtain ⟨fl, hfl⟩ : ∃ fl, fl = fileL al := ⟨_, rfl⟩
    rw [← hfl] at hg3 hfl3 hfr hy3
    have HFL := Lib.hid hfl
    have HFLL := Lib.hid hfl3
    have HFR := Lib.hid hfr
    have HG3 := Lib.hid hg3
    have HR3 := Lib.hid hr3
    have HY3 := Lib.hid hy3
    have HB3 := Lib.hid (HB2.out.trans (hb3.mono (by omega)))
    have HK3 := Lib.hid (HK2.out.below hb3 (by omega))
    have HRB3 := Lib.hid ((HRB2.out.below hb3).more hs3)
    have HRA3 := Lib.hid ((HR2.out.below hb3).more hs3)
    clear hg3 hb3 hr3 HF hfl hfl3 hfr hy3 HB2 HK2 HRB2 HR2
    go_wp2_with fail
    go_loopw [12, 13] (fun v i wr => ∃ k : Nat, k ≤ ys.length ∧ i = .int .i64 k ∧ Hid (Bs wr w3.heap.size v (fl.take k).flatten) ∧ Hid (Below w3.heap.size w3 wr)) (fun _ i _ => ys.length - (intOf i).toNat)
    case atStart => exact ⟨0, by omega, rfl, Lib.hid (by show Own _ _ _ _ _; exact Own.nil _ _ _), Lib.hid (Below.refl _ _)⟩
    case round =>
     obtain ⟨k, hk, rfl, HV, HB⟩ := hrel
     have hsB2 := HB.out.size
     obtain ⟨Av2, cw, rfl, hcw1, hcw2, hrw⟩ := bs_shape HV.out
     by_cases hlt : k < ys.length
     ·have hlt2 : k < fl.length := by rw [← HY3.out]; exact hlt
      obtain ⟨ad, rfl, had, hcell⟩ := HR3.out.at_ hlt
      have hcell' : wr.cell? (ad.add k) = some ys[k] := (World.cell?_of_block (w := w3) (by rw [block_of_add]; exact HB.out.block ad.block had)).trans hcell
      have hgk := (HG3.out.got k hlt hlt2).below HB.out (Nat.le_refl _)
      obtain ⟨Ak, ck, hvk, hk1, hk2, hrk⟩ := hgk.shape
      rw [hvk] at hcell'
      have hkl := HFR.out _ (List.getElem_mem hlt2)
      have hfl := take_flat_le fl k
      have hfl2 := HFLL.out
      have HT : Hid ((fl.take (k + 1)).flatten = (fl.take k).flatten ++ fl[k]) := Lib.hid (by rw [List.take_succ_eq_append_getElem hlt2, List.flatten_append]; simp)
      obtain ⟨P, hP⟩ : ∃ P, P = (fl.take k).flatten := ⟨_, rfl⟩
      rw [← hP] at HV HT hfl hcw1 ⊢
      have HP := Lib.hid hP
      have HRK := Lib.hid hrk
      generalize fl[k] = ch at hcell' hkl HT HRK hk1
      have hkI : (k : Int) < (ys.length : Int) := by omega
      clear hgk hvk hcell hP hrw hrk
      go_wp2_with (at_builtin; go_must (refine wpList_append_any rfl (.tmp 51) (.tmp 55) 27 rfl w3.heap.size 5 (.int .u8 0) 1 Tryz.underlying27 info_u8 rfl _ _ rfl HV.out wr.heap.size Ak ch.length ck (cells ch) rfl (cells_length _).symm HRK.out (bytes_oneCell _) (by simp only [cells_length]; unfold maxLen; omega) (by simp only [cells_length]; omega) (by omega) ?_; intro v4 w4 hv4 hg4 hf4))
      have hv5 : Bs w4 w3.heap.size v4 (P ++ ch) := (by unfold Bs; rw [cells_append]; exact hv4)
      obtain ⟨Ao3, co3, hov3, _⟩ := bs_shape hv5
      subst hov3
      have HY4 := Lib.hid (show Bs w4 w3.heap.size (.slice Ao3 (P ++ ch).length co3) (fl.take (k + 1)).flatten by rw [HT.out]; exact hv5)
      have HB4 := Lib.hid (HB.out.grown hg4 (by omega) (fun j hj => (Own.lt HV.out j hj).1))
      clear hv4 hg4 hf4 hv5
      go_wp2_with fail
      go_roundw
      case rel => exact ⟨k + 1, by omega, by go_num, HY4, HB4⟩
      case measure => simp [intOf]; omega
     ·have hke : fl.take k = fl := List.take_of_length_le (by rw [← HY3.out]; omega)
      rw [hke] at HV hcw1 hrw ⊢
      obtain ⟨FL, hFL⟩ : ∃ FL, FL = fl.flatten := ⟨_, rfl⟩
      rw [← hFL] at HV hcw1 hrw ⊢
      have HFLE := Lib.hid (show FL = (fileL al).flatten by rw [hFL, HFL.out])
      have hkn : ¬ (k : Int) < (ys.length : Int) := by omega
      have HVW := Lib.hid HV.out
      have HBW := Lib.hid (HB3.out.trans (HB.out.mono (by omega)))
      have HKW := Lib.hid (HK3.out.below HB.out (by omega))
      have HRD := Lib.hid (rread_any Av al al.length cv rfl wr ((HRA3.out.below HB.out).more hsB2) hcv1 (by omega) hcv2)
      have hws : w.heap.size < w3.heap.size := by omega
      clear hke hFL HV HB hrw HFL HFLL HFR HG3 HR3 HY3 HB3 HK3 HRA3 HRB3
      go_wp2_with fail
      refine HRD.out.mono ?_
      rintro e w5 ⟨V, rfl, hS, hb5⟩
      obtain ⟨xx, yy, rfl, hz5, hd5, hap5⟩ := hS
      obtain ⟨Ax, cx, ex, _⟩ := Own.shape hz5
      obtain ⟨Ay, cy, ey, _⟩ := bs_shape hd5
      rw [List.length_map] at ex
      subst ex ey
      have hs5 := hb5.size
      obtain ⟨w6, hw6⟩ : ∃ w6, w6 = w5.alloc (.cells #[.int .i64 (oI al), .int .i64 (oT al), .slice Ax (oZ al).length cx, .slice Ay (oD al).length cy] 29) := ⟨_, rfl⟩
      have hb6 : Below w5.heap.size w5 w6 := by rw [hw6]; exact (Below.refl _ w5).alloc (Nat.le_refl _) _
      have hK6 : Blk w6 w5.heap.size 29 #[.int .i64 (oI al), .int .i64 (oT al), .slice Ax (oZ al).length cx, .slice Ay (oD al).length cy] := by rw [hw6]; exact Blk.new w5 29 _
      have hs6 := hb6.size
      have hKr : Blk w6 w.heap.size 29 _ := (HKW.out.below hb5 (by omega)).below hb6 (by omega)
      have HB6 := Lib.hid ((HBW.out.trans (hb5.mono (by omega))).trans (hb6.mono (by omega)))
      have HZ6 := Lib.hid (Own.below hz5 hb6 (Nat.le_refl _))
      have HD6 := Lib.hid (Own.below hd5 hb6 (Nat.le_refl _))
      have HV6 := Lib.hid (show Bs w6 w3.heap.size _ FL from Own.below (Own.below HVW.out hb5 (Nat.le_refl _)) hb6 (Nat.le_refl _))
      have HAP := Lib.hid hap5
      have HK6 := Lib.hid hK6
      have HKR := Lib.hid hKr
      have HW6 := Lib.hid hw6
      obtain ⟨g0, g1, g2, g3, _⟩ := blk4_cells hK6
      obtain ⟨r0, r1, r2, r3, q0, q1, q2, q3⟩ := blk4_cells hKr
      have hne : w.heap.size ≠ w5.heap.size := by omega
      obtain ⟨Aw', cw', ew, _, _, hrw6⟩ := bs_shape HV6.out
      injection ew with ew1 ew2 ew3
      subst ew1 ew3
      have k1 := str_of cw hrw6
      have k2 := str_of c (HRA.out.below HB6.out)
      clear hz5 hd5 hap5 hb5 hb6 hK6 hKr hw6 HRD hrw6 HVW HBW HKW ew2
      go_upto_region 16 with (fail)
      rw [← HW6.out]
      by_cases hoe : oE al = 0
      ·have HOE := Lib.hid hoe
       rw [hoe]
       clear hoe
       by_cases hix : oI al = ix
       ·have HIX := Lib.hid hix
        have hxb : (oI al == ix) = true := by rw [hix]; simp
        clear hix
        refine wp_region_held_drew (by kernel_rfl) (S := fun W => W.cell? ⟨w5.heap.size, 0, none⟩ = some (.int .i64 (oI al)) ∧ W.cell? ⟨w5.heap.size, 1, none⟩ = some (.int .i64 (oT al)) ∧ W.cell? ⟨w5.heap.size, 2, none⟩ = some (.slice Ax (oZ al).length cx) ∧ W.cell? ⟨w5.heap.size, 3, none⟩ = some (.slice Ay (oD al).length cy) ∧ (convert 27 9 (.slice Av2 FL.length cw)).run Tryz.prog W = .ok (.string (str FL)) W ∧ (convert 27 9 (.slice A b.length c)).run Tryz.prog W = .ok (.string (str b)) W) ⟨g0, g1, g2, g3, by exact str_of cw ((bs_rd HV6.out).drewN 1), by exact str_of c ((HRA.out.below HB6.out).drewN 1)⟩ (fun hHeld => ?_)
        refine held_take 0 (v := ?_) (by simp) (by kernel_rfl) (by kernel_rfl) (by kernel_rfl) (fun _ _ _ h => h) (Or.inl ⟨by rfl, ?_⟩) hHeld ?_
        case refine_2 => (intro w hSw; (try dsimp only at hSw); obtain ⟨s0, s1, s2, s3, s4, s5⟩ := hSw; simp only [List.getElem_cons_zero]; go_simp <;> with_reducible rfl)
        simp only [List.getElem_cons_zero, Act.put, List.setIfInBounds_toArray, List.set_cons_zero, List.set_cons_succ]
        refine held_take 1 (v := ?_) (by simp) (by kernel_rfl) (by kernel_rfl) (by kernel_rfl) (fun _ _ _ h => h) (Or.inl ⟨by rfl, ?_⟩) hHeld ?_
        case refine_2 => (intro w hSw; (try dsimp only at hSw); obtain ⟨s0, s1, s2, s3, s4, s5⟩ := hSw; simp only [List.getElem_cons_zero, List.getElem_cons_succ]; go_simp <;> with_reducible rfl)
        simp only [List.getElem_cons_zero, List.getElem_cons_succ, Act.put, List.setIfInBounds_toArray, List.set_cons_zero, List.set_cons_succ]
        refine held_take 2 (v := ?_) (by simp) (by kernel_rfl) (by kernel_rfl) (by kernel_rfl) (fun _ _ _ h => h) (Or.inl ⟨by rfl, ?_⟩) hHeld ?_
        case refine_2 => (intro w hSw; (try dsimp only at hSw); obtain ⟨s0, s1, s2, s3, s4, s5⟩ := hSw; simp only [List.getElem_cons_zero, List.getElem_cons_succ]; go_simp <;> with_reducible rfl)
        simp only [List.getElem_cons_zero, List.getElem_cons_succ, Act.put, List.setIfInBounds_toArray, List.set_cons_zero, List.set_cons_succ]
        refine held_take 3 (v := ?_) (by simp) (by kernel_rfl) (by kernel_rfl) (by kernel_rfl) (fun _ _ _ h => h) (Or.inl ⟨by rfl, ?_⟩) hHeld ?_
        case refine_2 => (intro w hSw; (try dsimp only at hSw); obtain ⟨s0, s1, s2, s3, s4, s5⟩ := hSw; simp only [List.getElem_cons_zero, List.getElem_cons_succ]; go_simp <;> with_reducible rfl)
        simp only [List.getElem_cons_zero, List.getElem_cons_succ, Act.put, List.setIfInBounds_toArray, List.set_cons_zero, List.set_cons_succ]
        refine held_take 4 (v := ?_) (by simp) (by kernel_rfl) (by kernel_rfl) (by kernel_rfl) (fun _ _ _ h => h) (Or.inl ⟨by rfl, ?_⟩) hHeld ?_
        case refine_2 => (intro w hSw; (try dsimp only at hSw); obtain ⟨s0, s1, s2, s3, s4, s5⟩ := hSw; simp only [List.getElem_cons_zero, List.getElem_cons_succ]; go_simp <;> with_reducible rfl)
        simp only [List.getElem_cons_zero, List.getElem_cons_succ, Act.put, List.setIfInBounds_toArray, List.set_cons_zero, List.set_cons_succ]
        refine held_take 5 (v := ?_) (by simp) (by kernel_rfl) (by kernel_rfl) (by kernel_rfl) (fun _ _ _ h => h) (Or.inl ⟨by rfl, ?_⟩) hHeld ?_
        case refine_2 => (intro w hSw; (try dsimp only at hSw); obtain ⟨s0, s1, s2, s3, s4, s5⟩ := hSw; simp only [List.getElem_cons_zero, List.getElem_cons_succ]; go_simp <;> with_reducible rfl)
        simp only [List.getElem_cons_zero, List.getElem_cons_succ, Act.put, List.setIfInBounds_toArray, List.set_cons_zero, List.set_cons_succ]
        refine held_take 6 (v := ?_) (by simp) (by kernel_rfl) (by kernel_rfl) (by kernel_rfl) (fun _ _ _ h => h) (Or.inl ⟨by rfl, ?_⟩) hHeld ?_
        case refine_2 => (intro w hSw; (try dsimp only at hSw); obtain ⟨s0, s1, s2, s3, s4, s5⟩ := hSw; simp only [List.getElem_cons_zero, List.getElem_cons_succ]; go_simp <;> with_reducible rfl)
        simp only [List.getElem_cons_zero, List.getElem_cons_succ, Act.put, List.setIfInBounds_toArray, List.set_cons_zero, List.set_cons_succ]
        refine held_take 7 (v := ?_) (by simp) (by kernel_rfl) (by kernel_rfl) (by kernel_rfl) (fun _ _ _ h => h) (Or.inl ⟨by rfl, ?_⟩) hHeld ?_
        case refine_2 => (intro w hSw; (try dsimp only at hSw); obtain ⟨s0, s1, s2, s3, s4, s5⟩ := hSw; simp only [List.getElem_cons_zero, List.getElem_cons_succ]; go_simp <;> with_reducible rfl)
        simp only [List.getElem_cons_zero, List.getElem_cons_succ, Act.put, List.setIfInBounds_toArray, List.set_cons_zero, List.set_cons_succ]
        refine held_take 8 (v := ?_) (by simp) (by kernel_rfl) (by kernel_rfl) (by kernel_rfl) (fun _ _ _ h => h) (Or.inl ⟨by rfl, ?_⟩) hHeld ?_
        case refine_2 => (intro w hSw; (try dsimp only at hSw); obtain ⟨s0, s1, s2, s3, s4, s5⟩ := hSw; simp only [List.getElem_cons_zero, List.getElem_cons_succ]; go_simp <;> with_reducible rfl)
        simp only [List.getElem_cons_zero, List.getElem_cons_succ, Act.put, List.setIfInBounds_toArray, List.set_cons_zero, List.set_cons_succ]
        refine held_take 9 (v := ?_) (by simp) (by kernel_rfl) (by kernel_rfl) (by kernel_rfl) (fun _ _ _ h => h) (Or.inl ⟨by rfl, ?_⟩) hHeld ?_
        case refine_2 => (intro w hSw; (try dsimp only at hSw); obtain ⟨s0, s1, s2, s3, s4, s5⟩ := hSw; simp only [List.getElem_cons_zero, List.getElem_cons_succ]; go_simp <;> with_reducible rfl)
        simp only [List.getElem_cons_zero, List.getElem_cons_succ, Act.put, List.setIfInBounds_toArray, List.set_cons_zero, List.set_cons_succ]
        refine held_take 10 (v := ?_) (by simp) (by kernel_rfl) (by kernel_rfl) (by kernel_rfl) (fun _ _ _ h => h) (Or.inl ⟨by rfl, ?_⟩) hHeld ?_
        case refine_2 => (intro w hSw; (try dsimp only at hSw); obtain ⟨s0, s1, s2, s3, s4, s5⟩ := hSw; simp only [List.getElem_cons_zero, List.getElem_cons_succ]; go_simp <;> with_reducible rfl)
        simp only [List.getElem_cons_zero, List.getElem_cons_succ, Act.put, List.setIfInBounds_toArray, List.set_cons_zero, List.set_cons_succ]
        refine held_take 11 (v := ?_) (by simp) (by kernel_rfl) (by kernel_rfl) (by kernel_rfl) (fun _ _ _ h => h) (Or.inl ⟨by rfl, ?_⟩) hHeld ?_
        case refine_2 => (intro w hSw; (try dsimp only at hSw); obtain ⟨s0, s1, s2, s3, s4, s5⟩ := hSw; simp only [List.getElem_cons_zero, List.getElem_cons_succ]; go_simp <;> with_reducible rfl)
        simp only [List.getElem_cons_zero, List.getElem_cons_succ, Act.put, List.setIfInBounds_toArray, List.set_cons_zero, List.set_cons_succ]
        refine held_take 12 (v := ?_) (by simp) (by kernel_rfl) (by kernel_rfl) (by kernel_rfl) (fun _ _ _ h => h) (Or.inl ⟨by rfl, ?_⟩) hHeld ?_
        case refine_2 => (intro w hSw; (try dsimp only at hSw); obtain ⟨s0, s1, s2, s3, s4, s5⟩ := hSw; simp only [List.getElem_cons_zero, List.getElem_cons_succ]; go_simp <;> with_reducible rfl)
        simp only [List.getElem_cons_zero, List.getElem_cons_succ, Act.put, List.setIfInBounds_toArray, List.set_cons_zero, List.set_cons_succ]
        refine held_take 13 (v := ?_) (by simp) (by kernel_rfl) (by kernel_rfl) (by kernel_rfl) (fun _ _ _ h => h) (Or.inl ⟨by rfl, ?_⟩) hHeld ?_
        case refine_2 => (intro w hSw; (try dsimp only at hSw); obtain ⟨s0, s1, s2, s3, s4, s5⟩ := hSw; simp only [List.getElem_cons_zero, List.getElem_cons_succ]; go_simp <;> with_reducible rfl)
        simp only [List.getElem_cons_zero, List.getElem_cons_succ, Act.put, List.setIfInBounds_toArray, List.set_cons_zero, List.set_cons_succ]
        refine held_take 14 (v := ?_) (by simp) (by kernel_rfl) (by kernel_rfl) (by kernel_rfl) (fun _ _ _ h => h) (Or.inl ⟨by rfl, ?_⟩) hHeld ?_
        case refine_2 => (intro w hSw; (try dsimp only at hSw); obtain ⟨s0, s1, s2, s3, s4, s5⟩ := hSw; simp only [List.getElem_cons_zero, List.getElem_cons_succ]; go_simp <;> with_reducible rfl)
        simp only [List.getElem_cons_zero, List.getElem_cons_succ, Act.put, List.setIfInBounds_toArray, List.set_cons_zero, List.set_cons_succ]
        refine held_take 15 (v := ?_) (by simp) (by kernel_rfl) (by kernel_rfl) (by kernel_rfl) (fun _ _ _ h => h) (Or.inl ⟨by rfl, ?_⟩) hHeld ?_
        case refine_2 => (intro w hSw; (try dsimp only at hSw); obtain ⟨s0, s1, s2, s3, s4, s5⟩ := hSw; simp only [List.getElem_cons_zero, List.getElem_cons_succ]; go_simp <;> with_reducible rfl)
        simp only [List.getElem_cons_zero, List.getElem_cons_succ, Act.put, List.setIfInBounds_toArray, List.set_cons_zero, List.set_cons_succ]
        refine held_sole 16 (by simp) (by kernel_rfl) (fun K hK => ?_)
        simp only [List.getElem_cons_zero, List.getElem_cons_succ]
        go_simp
        obtain ⟨W9, hW9⟩ : ∃ W9, W9 = ((((w6.setCell ⟨w.heap.size, 0, none⟩ (.int .i64 (oI al))).setCell ⟨w.heap.size, 1, none⟩ (.int .i64 (oT al))).setCell ⟨w.heap.size, 2, none⟩ (.slice Ax (oZ al).length cx)).setCell ⟨w.heap.size, 3, none⟩ (.slice Ay (oD al).length cy)).drew := ⟨_, rfl⟩
        have hK9 : Blk W9 w.heap.size 29 #[.int .i64 (oI al), .int .i64 (oT al), .slice Ax (oZ al).length cx, .slice Ay (oD al).length cy] := by rw [hW9]; exact (((Blk.set_ HKR.out 0 _).set_ 1 _).set_ 2 _).set_ 3 _
        have hg9 : w6.grownBy W9 (some w.heap.size) := by rw [hW9]; exact grown_drewN (grown_then (grown_then (grown_then (grown_setCell w6 w.heap.size 0 _) (grown_setCell _ w.heap.size 1 _) (.inl rfl)) (grown_setCell _ w.heap.size 2 _) (.inl rfl)) (grown_setCell _ w.heap.size 3 _) (.inl rfl)) 1
        have hK5 : Blk W9 w5.heap.size 29 _ := HK6.out.grown hg9 (by intro e; injection e with e; exact hne e.symm)
        obtain ⟨b0, b1, b2, b3, _⟩ := blk4_cells hK5
        have HZ9 := Lib.hid (show Is W9 wr.heap.size (.slice Ax (oZ al).length cx) (oZ al) from Own.kept HZ6.out hg9 (.inr (fun e => by have := (Own.lt HZ6.out w.heap.size e).1; omega)))
        have HD9 := Lib.hid (show Bs W9 wr.heap.size (.slice Ay (oD al).length cy) (oD al) from Own.kept HD6.out hg9 (.inr (fun e => by have := (Own.lt HD6.out w.heap.size e).1; omega)))
        have HV9 := Lib.hid (show Bs W9 w3.heap.size (.slice Av2 FL.length cw) FL from Own.kept HV6.out hg9 (.inr (fun e => by have := (Own.lt HV6.out w.heap.size e).1; omega)))
        have HB9 := Lib.hid (HB6.out.grown hg9 (by omega) (fun k hk => by injection hk with hk; omega))
        have HK9 := Lib.hid hK9
        have m1 := str_of cw (bs_rd HV9.out)
        have m2 := str_of c (HRA.out.below HB9.out)
        rw [← hW9]
        clear hW9 hK9 hg9 hK5
        refine hK.out _ _ ⟨b0, b1, b2, b3, m1, m2⟩ (fun hHeld => ?_)
        clear hK K
        try simp only [Act.put, List.setIfInBounds_toArray, List.set_cons_zero, List.set_cons_succ]
        refine held_sole 17 (by simp) (by kernel_rfl) (fun K hK => ?_)
        simp only [List.getElem_cons_zero, List.getElem_cons_succ]
        go_simp
        refine hK.out _ _ ⟨b0, b1, b2, b3, m1, m2⟩ (fun hHeld => ?_)
        clear hK K
        try simp only [Act.put, List.setIfInBounds_toArray, List.set_cons_zero, List.set_cons_succ]
        refine wpAnyH_done (by kernel_rfl) ?_ _
        have hob2 : ob = ((str FL).toList == (str b).toList) := by
         rw [HOB.out, decide_eq_true (show 2 ≤ rs.length by have := HX1.out; omega), ← HFLE.out, decide_eq_true HOE.out, decide_eq_true HIX.out, str_beq]
         simp
        have HO2 := Lib.hid hob2
        clear hob2 hHeld b0 b1 b2 b3 m1 m2 k1 k2
        go_wp2_with fail
        refine bodyPost_ret (results_open (fn := Tryz.f84) rfl _ _ w.heap.size _ _ _ _ rfl HK9.out) rfl ?_
        refine ⟨_, oI al, oT al, oZ al, oD al, by rw [HO2.out]; rfl, ⟨_, _, rfl, HZ9.out.mono (by omega), HD9.out.mono (by omega), HAP.out⟩, fun _ => ⟨rfl, rfl, rfl, rfl⟩, HB9.out⟩
       ·have HIX := Lib.hid hix
        have hxb : (oI al == ix) = false := by simpa using hix
        clear hix
        refine wp_region_held_drew (by kernel_rfl) (S := fun W => W.cell? ⟨w5.heap.size, 0, none⟩ = some (.int .i64 (oI al)) ∧ W.cell? ⟨w5.heap.size, 1, none⟩ = some (.int .i64 (oT al)) ∧ W.cell? ⟨w5.heap.size, 2, none⟩ = some (.slice Ax (oZ al).length cx) ∧ W.cell? ⟨w5.heap.size, 3, none⟩ = some (.slice Ay (oD al).length cy) ∧ (convert 27 9 (.slice Av2 FL.length cw)).run Tryz.prog W = .ok (.string (str FL)) W ∧ (convert 27 9 (.slice A b.length c)).run Tryz.prog W = .ok (.string (str b)) W) ⟨g0, g1, g2, g3, by exact str_of cw ((bs_rd HV6.out).drewN 1), by exact str_of c ((HRA.out.below HB6.out).drewN 1)⟩ (fun hHeld => ?_)
        refine held_take 0 (v := ?_) (by simp) (by kernel_rfl) (by kernel_rfl) (by kernel_rfl) (fun _ _ _ h => h) (Or.inl ⟨by rfl, ?_⟩) hHeld ?_
        case refine_2 => (intro w hSw; (try dsimp only at hSw); obtain ⟨s0, s1, s2, s3, s4, s5⟩ := hSw; simp only [List.getElem_cons_zero]; go_simp <;> with_reducible rfl)
        simp only [List.getElem_cons_zero, Act.put, List.setIfInBounds_toArray, List.set_cons_zero, List.set_cons_succ]
        refine held_take 1 (v := ?_) (by simp) (by kernel_rfl) (by kernel_rfl) (by kernel_rfl) (fun _ _ _ h => h) (Or.inl ⟨by rfl, ?_⟩) hHeld ?_
        case refine_2 => (intro w hSw; (try dsimp only at hSw); obtain ⟨s0, s1, s2, s3, s4, s5⟩ := hSw; simp only [List.getElem_cons_zero, List.getElem_cons_succ]; go_simp <;> with_reducible rfl)
        simp only [List.getElem_cons_zero, List.getElem_cons_succ, Act.put, List.setIfInBounds_toArray, List.set_cons_zero, List.set_cons_succ]
        refine held_take 2 (v := ?_) (by simp) (by kernel_rfl) (by kernel_rfl) (by kernel_rfl) (fun _ _ _ h => h) (Or.inl ⟨by rfl, ?_⟩) hHeld ?_
        case refine_2 => (intro w hSw; (try dsimp only at hSw); obtain ⟨s0, s1, s2, s3, s4, s5⟩ := hSw; simp only [List.getElem_cons_zero, List.getElem_cons_succ]; go_simp <;> with_reducible rfl)
        simp only [List.getElem_cons_zero, List.getElem_cons_succ, Act.put, List.setIfInBounds_toArray, List.set_cons_zero, List.set_cons_succ]
        refine held_take 3 (v := ?_) (by simp) (by kernel_rfl) (by kernel_rfl) (by kernel_rfl) (fun _ _ _ h => h) (Or.inl ⟨by rfl, ?_⟩) hHeld ?_
        case refine_2 => (intro w hSw; (try dsimp only at hSw); obtain ⟨s0, s1, s2, s3, s4, s5⟩ := hSw; simp only [List.getElem_cons_zero, List.getElem_cons_succ]; go_simp <;> with_reducible rfl)
        simp only [List.getElem_cons_zero, List.getElem_cons_succ, Act.put, List.setIfInBounds_toArray, List.set_cons_zero, List.set_cons_succ]
        refine held_take 4 (v := ?_) (by simp) (by kernel_rfl) (by kernel_rfl) (by kernel_rfl) (fun _ _ _ h => h) (Or.inl ⟨by rfl, ?_⟩) hHeld ?_
        case refine_2 => (intro w hSw; (try dsimp only at hSw); obtain ⟨s0, s1, s2, s3, s4, s5⟩ := hSw; simp only [List.getElem_cons_zero, List.getElem_cons_succ]; go_simp <;> with_reducible rfl)
        simp only [List.getElem_cons_zero, List.getElem_cons_succ, Act.put, List.setIfInBounds_toArray, List.set_cons_zero, List.set_cons_succ]
        refine held_take 5 (v := ?_) (by simp) (by kernel_rfl) (by kernel_rfl) (by kernel_rfl) (fun _ _ _ h => h) (Or.inl ⟨by rfl, ?_⟩) hHeld ?_
        case refine_2 => (intro w hSw; (try dsimp only at hSw); obtain ⟨s0, s1, s2, s3, s4, s5⟩ := hSw; simp only [List.getElem_cons_zero, List.getElem_cons_succ]; go_simp <;> with_reducible rfl)
        simp only [List.getElem_cons_zero, List.getElem_cons_succ, Act.put, List.setIfInBounds_toArray, List.set_cons_zero, List.set_cons_succ]
        refine held_take 6 (v := ?_) (by simp) (by kernel_rfl) (by kernel_rfl) (by kernel_rfl) (fun _ _ _ h => h) (Or.inl ⟨by rfl, ?_⟩) hHeld ?_
        case refine_2 => (intro w hSw; (try dsimp only at hSw); obtain ⟨s0, s1, s2, s3, s4, s5⟩ := hSw; simp only [List.getElem_cons_zero, List.getElem_cons_succ]; go_simp <;> with_reducible rfl)
        simp only [List.getElem_cons_zero, List.getElem_cons_succ, Act.put, List.setIfInBounds_toArray, List.set_cons_zero, List.set_cons_succ]
        refine held_take 7 (v := ?_) (by simp) (by kernel_rfl) (by kernel_rfl) (by kernel_rfl) (fun _ _ _ h => h) (Or.inl ⟨by rfl, ?_⟩) hHeld ?_
        case refine_2 => (intro w hSw; (try dsimp only at hSw); obtain ⟨s0, s1, s2, s3, s4, s5⟩ := hSw; simp only [List.getElem_cons_zero, List.getElem_cons_succ]; go_simp <;> with_reducible rfl)
        simp only [List.getElem_cons_zero, List.getElem_cons_succ, Act.put, List.setIfInBounds_toArray, List.set_cons_zero, List.set_cons_succ]
        refine held_take 8 (v := ?_) (by simp) (by kernel_rfl) (by kernel_rfl) (by kernel_rfl) (fun _ _ _ h => h) (Or.inl ⟨by rfl, ?_⟩) hHeld ?_
        case refine_2 => (intro w hSw; (try dsimp only at hSw); obtain ⟨s0, s1, s2, s3, s4, s5⟩ := hSw; simp only [List.getElem_cons_zero, List.getElem_cons_succ]; go_simp <;> with_reducible rfl)
        simp only [List.getElem_cons_zero, List.getElem_cons_succ, Act.put, List.setIfInBounds_toArray, List.set_cons_zero, List.set_cons_succ]
        refine held_take 9 (v := ?_) (by simp) (by kernel_rfl) (by kernel_rfl) (by kernel_rfl) (fun _ _ _ h => h) (Or.inl ⟨by rfl, ?_⟩) hHeld ?_
        case refine_2 => (intro w hSw; (try dsimp only at hSw); obtain ⟨s0, s1, s2, s3, s4, s5⟩ := hSw; simp only [List.getElem_cons_zero, List.getElem_cons_succ]; go_simp <;> with_reducible rfl)
        simp only [List.getElem_cons_zero, List.getElem_cons_succ, Act.put, List.setIfInBounds_toArray, List.set_cons_zero, List.set_cons_succ]
        refine held_take 10 (v := undef) (by simp) (by kernel_rfl) (by kernel_rfl) (by kernel_rfl) (fun _ _ _ h => h) (Or.inr ⟨by rfl, rfl⟩) hHeld ?_
        simp only [List.getElem_cons_zero, List.getElem_cons_succ, Act.put, List.setIfInBounds_toArray, List.set_cons_zero, List.set_cons_succ]
        refine held_take 11 (v := undef) (by simp) (by kernel_rfl) (by kernel_rfl) (by kernel_rfl) (fun _ _ _ h => h) (Or.inr ⟨by rfl, rfl⟩) hHeld ?_
        simp only [List.getElem_cons_zero, List.getElem_cons_succ, Act.put, List.setIfInBounds_toArray, List.set_cons_zero, List.set_cons_succ]
        refine held_take 12 (v := undef) (by simp) (by kernel_rfl) (by kernel_rfl) (by kernel_rfl) (fun _ _ _ h => h) (Or.inr ⟨by rfl, rfl⟩) hHeld ?_
        simp only [List.getElem_cons_zero, List.getElem_cons_succ, Act.put, List.setIfInBounds_toArray, List.set_cons_zero, List.set_cons_succ]
        refine held_take 13 (v := undef) (by simp) (by kernel_rfl) (by kernel_rfl) (by kernel_rfl) (fun _ _ _ h => h) (Or.inr ⟨by rfl, rfl⟩) hHeld ?_
        simp only [List.getElem_cons_zero, List.getElem_cons_succ, Act.put, List.setIfInBounds_toArray, List.set_cons_zero, List.set_cons_succ]
        refine held_take 14 (v := undef) (by simp) (by kernel_rfl) (by kernel_rfl) (by kernel_rfl) (fun _ _ _ h => h) (Or.inr ⟨by rfl, rfl⟩) hHeld ?_
        simp only [List.getElem_cons_zero, List.getElem_cons_succ, Act.put, List.setIfInBounds_toArray, List.set_cons_zero, List.set_cons_succ]
        refine held_take 15 (v := ?_) (by simp) (by kernel_rfl) (by kernel_rfl) (by kernel_rfl) (fun _ _ _ h => h) (Or.inl ⟨by rfl, ?_⟩) hHeld ?_
        case refine_2 => (intro w hSw; (try dsimp only at hSw); obtain ⟨s0, s1, s2, s3, s4, s5⟩ := hSw; simp only [List.getElem_cons_zero, List.getElem_cons_succ]; go_simp <;> with_reducible rfl)
        simp only [List.getElem_cons_zero, List.getElem_cons_succ, Act.put, List.setIfInBounds_toArray, List.set_cons_zero, List.set_cons_succ]
        refine held_sole 16 (by simp) (by kernel_rfl) (fun K hK => ?_)
        simp only [List.getElem_cons_zero, List.getElem_cons_succ]
        go_simp
        obtain ⟨W9, hW9⟩ : ∃ W9, W9 = ((((w6.setCell ⟨w.heap.size, 0, none⟩ (.int .i64 (oI al))).setCell ⟨w.heap.size, 1, none⟩ (.int .i64 (oT al))).setCell ⟨w.heap.size, 2, none⟩ (.slice Ax (oZ al).length cx)).setCell ⟨w.heap.size, 3, none⟩ (.slice Ay (oD al).length cy)).drew := ⟨_, rfl⟩
        have hK9 : Blk W9 w.heap.size 29 #[.int .i64 (oI al), .int .i64 (oT al), .slice Ax (oZ al).length cx, .slice Ay (oD al).length cy] := by rw [hW9]; exact (((Blk.set_ HKR.out 0 _).set_ 1 _).set_ 2 _).set_ 3 _
        have hg9 : w6.grownBy W9 (some w.heap.size) := by rw [hW9]; exact grown_drewN (grown_then (grown_then (grown_then (grown_setCell w6 w.heap.size 0 _) (grown_setCell _ w.heap.size 1 _) (.inl rfl)) (grown_setCell _ w.heap.size 2 _) (.inl rfl)) (grown_setCell _ w.heap.size 3 _) (.inl rfl)) 1
        have hK5 : Blk W9 w5.heap.size 29 _ := HK6.out.grown hg9 (by intro e; injection e with e; exact hne e.symm)
        obtain ⟨b0, b1, b2, b3, _⟩ := blk4_cells hK5
        have HZ9 := Lib.hid (show Is W9 wr.heap.size (.slice Ax (oZ al).length cx) (oZ al) from Own.kept HZ6.out hg9 (.inr (fun e => by have := (Own.lt HZ6.out w.heap.size e).1; omega)))
        have HD9 := Lib.hid (show Bs W9 wr.heap.size (.slice Ay (oD al).length cy) (oD al) from Own.kept HD6.out hg9 (.inr (fun e => by have := (Own.lt HD6.out w.heap.size e).1; omega)))
        have HV9 := Lib.hid (show Bs W9 w3.heap.size (.slice Av2 FL.length cw) FL from Own.kept HV6.out hg9 (.inr (fun e => by have := (Own.lt HV6.out w.heap.size e).1; omega)))
        have HB9 := Lib.hid (HB6.out.grown hg9 (by omega) (fun k hk => by injection hk with hk; omega))
        have HK9 := Lib.hid hK9
        have m1 := str_of cw (bs_rd HV9.out)
        have m2 := str_of c (HRA.out.below HB9.out)
        rw [← hW9]
        clear hW9 hK9 hg9 hK5
        refine hK.out _ _ ⟨b0, b1, b2, b3, m1, m2⟩ (fun hHeld => ?_)
        clear hK K
        try simp only [Act.put, List.setIfInBounds_toArray, List.set_cons_zero, List.set_cons_succ]
        refine held_sole 17 (by simp) (by kernel_rfl) (fun K hK => ?_)
        simp only [List.getElem_cons_zero, List.getElem_cons_succ]
        go_simp
        refine hK.out _ _ ⟨b0, b1, b2, b3, m1, m2⟩ (fun hHeld => ?_)
        clear hK K
        try simp only [Act.put, List.setIfInBounds_toArray, List.set_cons_zero, List.set_cons_succ]
        refine wpAnyH_done (by kernel_rfl) ?_ _
        have hob2 : ob = false := by
         rw [HOB.out, decide_eq_false HIX.out, Bool.and_false, Bool.and_false]
        have HO2 := Lib.hid hob2
        clear hob2 hHeld b0 b1 b2 b3 m1 m2 k1 k2
        go_wp2_with fail
        refine bodyPost_ret (results_open (fn := Tryz.f84) rfl _ _ w.heap.size _ _ _ _ rfl HK9.out) rfl ?_
        refine ⟨_, oI al, oT al, oZ al, oD al, by rw [HO2.out]; rfl, ⟨_, _, rfl, HZ9.out.mono (by omega), HD9.out.mono (by omega), HAP.out⟩, fun _ => ⟨rfl, rfl, rfl, rfl⟩, HB9.out⟩
      ·have h4 : oE al = 4 := by
        unfold oE at hoe ⊢
        split
        ·rename_i h; rw [if_pos h] at hoe; exact absurd rfl hoe
        ·rfl
       have HNE := Lib.hid hoe
       clear hoe
       rw [h4]
       clear h4
       refine wp_region_held_drew (by kernel_rfl) (S := fun W => W.cell? ⟨w5.heap.size, 0, none⟩ = some (.int .i64 (oI al)) ∧ W.cell? ⟨w5.heap.size, 1, none⟩ = some (.int .i64 (oT al)) ∧ W.cell? ⟨w5.heap.size, 2, none⟩ = some (.slice Ax (oZ al).length cx) ∧ W.cell? ⟨w5.heap.size, 3, none⟩ = some (.slice Ay (oD al).length cy) ∧ (convert 27 9 (.slice Av2 FL.length cw)).run Tryz.prog W = .ok (.string (str FL)) W ∧ (convert 27 9 (.slice A b.length c)).run Tryz.prog W = .ok (.string (str b)) W) ⟨g0, g1, g2, g3, by exact str_of cw ((bs_rd HV6.out).drewN 1), by exact str_of c ((HRA.out.below HB6.out).drewN 1)⟩ (fun hHeld => ?_)
       refine held_take 0 (v := ?_) (by simp) (by kernel_rfl) (by kernel_rfl) (by kernel_rfl) (fun _ _ _ h => h) (Or.inl ⟨by rfl, ?_⟩) hHeld ?_
       case refine_2 => (intro w hSw; (try dsimp only at hSw); obtain ⟨s0, s1, s2, s3, s4, s5⟩ := hSw; simp only [List.getElem_cons_zero]; go_simp <;> with_reducible rfl)
       simp only [List.getElem_cons_zero, Act.put, List.setIfInBounds_toArray, List.set_cons_zero, List.set_cons_succ]
       refine held_take 1 (v := ?_) (by simp) (by kernel_rfl) (by kernel_rfl) (by kernel_rfl) (fun _ _ _ h => h) (Or.inl ⟨by rfl, ?_⟩) hHeld ?_
       case refine_2 => (intro w hSw; (try dsimp only at hSw); obtain ⟨s0, s1, s2, s3, s4, s5⟩ := hSw; simp only [List.getElem_cons_zero, List.getElem_cons_succ]; go_simp <;> with_reducible rfl)
       simp only [List.getElem_cons_zero, List.getElem_cons_succ, Act.put, List.setIfInBounds_toArray, List.set_cons_zero, List.set_cons_succ]
       refine held_take 2 (v := ?_) (by simp) (by kernel_rfl) (by kernel_rfl) (by kernel_rfl) (fun _ _ _ h => h) (Or.inl ⟨by rfl, ?_⟩) hHeld ?_
       case refine_2 => (intro w hSw; (try dsimp only at hSw); obtain ⟨s0, s1, s2, s3, s4, s5⟩ := hSw; simp only [List.getElem_cons_zero, List.getElem_cons_succ]; go_simp <;> with_reducible rfl)
       simp only [List.getElem_cons_zero, List.getElem_cons_succ, Act.put, List.setIfInBounds_toArray, List.set_cons_zero, List.set_cons_succ]
       refine held_take 3 (v := ?_) (by simp) (by kernel_rfl) (by kernel_rfl) (by kernel_rfl) (fun _ _ _ h => h) (Or.inl ⟨by rfl, ?_⟩) hHeld ?_
       case refine_2 => (intro w hSw; (try dsimp only at hSw); obtain ⟨s0, s1, s2, s3, s4, s5⟩ := hSw; simp only [List.getElem_cons_zero, List.getElem_cons_succ]; go_simp <;> with_reducible rfl)
       simp only [List.getElem_cons_zero, List.getElem_cons_succ, Act.put, List.setIfInBounds_toArray, List.set_cons_zero, List.set_cons_succ]
       refine held_take 4 (v := undef) (by simp) (by kernel_rfl) (by kernel_rfl) (by kernel_rfl) (fun _ _ _ h => h) (Or.inr ⟨by rfl, rfl⟩) hHeld ?_
       simp only [List.getElem_cons_zero, List.getElem_cons_succ, Act.put, List.setIfInBounds_toArray, List.set_cons_zero, List.set_cons_succ]
       refine held_take 5 (v := undef) (by simp) (by kernel_rfl) (by kernel_rfl) (by kernel_rfl) (fun _ _ _ h => h) (Or.inr ⟨by rfl, rfl⟩) hHeld ?_
       simp only [List.getElem_cons_zero, List.getElem_cons_succ, Act.put, List.setIfInBounds_toArray, List.set_cons_zero, List.set_cons_succ]
       refine held_take 6 (v := undef) (by simp) (by kernel_rfl) (by kernel_rfl) (by kernel_rfl) (fun _ _ _ h => h) (Or.inr ⟨by rfl, rfl⟩) hHeld ?_
       simp only [List.getElem_cons_zero, List.getElem_cons_succ, Act.put, List.setIfInBounds_toArray, List.set_cons_zero, List.set_cons_succ]
       refine held_take 7 (v := undef) (by simp) (by kernel_rfl) (by kernel_rfl) (by kernel_rfl) (fun _ _ _ h => h) (Or.inr ⟨by rfl, rfl⟩) hHeld ?_
       simp only [List.getElem_cons_zero, List.getElem_cons_succ, Act.put, List.setIfInBounds_toArray, List.set_cons_zero, List.set_cons_succ]
       refine held_take 8 (v := ?_) (by simp) (by kernel_rfl) (by kernel_rfl) (by kernel_rfl) (fun _ _ _ h => h) (Or.inl ⟨by rfl, ?_⟩) hHeld ?_
       case refine_2 => (intro w hSw; (try dsimp only at hSw); obtain ⟨s0, s1, s2, s3, s4, s5⟩ := hSw; simp only [List.getElem_cons_zero, List.getElem_cons_succ]; go_simp <;> with_reducible rfl)
       simp only [List.getElem_cons_zero, List.getElem_cons_succ, Act.put, List.setIfInBounds_toArray, List.set_cons_zero, List.set_cons_succ]
       refine held_take 9 (v := ?_) (by simp) (by kernel_rfl) (by kernel_rfl) (by kernel_rfl) (fun _ _ _ h => h) (Or.inl ⟨by rfl, ?_⟩) hHeld ?_
       case refine_2 => (intro w hSw; (try dsimp only at hSw); obtain ⟨s0, s1, s2, s3, s4, s5⟩ := hSw; simp only [List.getElem_cons_zero, List.getElem_cons_succ]; go_simp <;> with_reducible rfl)
       simp only [List.getElem_cons_zero, List.getElem_cons_succ, Act.put, List.setIfInBounds_toArray, List.set_cons_zero, List.set_cons_succ]
       refine held_take 10 (v := undef) (by simp) (by kernel_rfl) (by kernel_rfl) (by kernel_rfl) (fun _ _ _ h => h) (Or.inr ⟨by rfl, rfl⟩) hHeld ?_
       simp only [List.getElem_cons_zero, List.getElem_cons_succ, Act.put, List.setIfInBounds_toArray, List.set_cons_zero, List.set_cons_succ]
       refine held_take 11 (v := undef) (by simp) (by kernel_rfl) (by kernel_rfl) (by kernel_rfl) (fun _ _ _ h => h) (Or.inr ⟨by rfl, rfl⟩) hHeld ?_
       simp only [List.getElem_cons_zero, List.getElem_cons_succ, Act.put, List.setIfInBounds_toArray, List.set_cons_zero, List.set_cons_succ]
       refine held_take 12 (v := undef) (by simp) (by kernel_rfl) (by kernel_rfl) (by kernel_rfl) (fun _ _ _ h => h) (Or.inr ⟨by rfl, rfl⟩) hHeld ?_
       simp only [List.getElem_cons_zero, List.getElem_cons_succ, Act.put, List.setIfInBounds_toArray, List.set_cons_zero, List.set_cons_succ]
       refine held_take 13 (v := undef) (by simp) (by kernel_rfl) (by kernel_rfl) (by kernel_rfl) (fun _ _ _ h => h) (Or.inr ⟨by rfl, rfl⟩) hHeld ?_
       simp only [List.getElem_cons_zero, List.getElem_cons_succ, Act.put, List.setIfInBounds_toArray, List.set_cons_zero, List.set_cons_succ]
       refine held_take 14 (v := undef) (by simp) (by kernel_rfl) (by kernel_rfl) (by kernel_rfl) (fun _ _ _ h => h) (Or.inr ⟨by rfl, rfl⟩) hHeld ?_
       simp only [List.getElem_cons_zero, List.getElem_cons_succ, Act.put, List.setIfInBounds_toArray, List.set_cons_zero, List.set_cons_succ]
       refine held_take 15 (v := ?_) (by simp) (by kernel_rfl) (by kernel_rfl) (by kernel_rfl) (fun _ _ _ h => h) (Or.inl ⟨by rfl, ?_⟩) hHeld ?_
       case refine_2 => (intro w hSw; (try dsimp only at hSw); obtain ⟨s0, s1, s2, s3, s4, s5⟩ := hSw; simp only [List.getElem_cons_zero, List.getElem_cons_succ]; go_simp <;> with_reducible rfl)
       simp only [List.getElem_cons_zero, List.getElem_cons_succ, Act.put, List.setIfInBounds_toArray, List.set_cons_zero, List.set_cons_succ]
       refine held_sole 16 (by simp) (by kernel_rfl) (fun K hK => ?_)
       simp only [List.getElem_cons_zero, List.getElem_cons_succ]
       go_simp
       obtain ⟨W9, hW9⟩ : ∃ W9, W9 = ((((w6.setCell ⟨w.heap.size, 0, none⟩ (.int .i64 (oI al))).setCell ⟨w.heap.size, 1, none⟩ (.int .i64 (oT al))).setCell ⟨w.heap.size, 2, none⟩ (.slice Ax (oZ al).length cx)).setCell ⟨w.heap.size, 3, none⟩ (.slice Ay (oD al).length cy)).drew := ⟨_, rfl⟩
       have hK9 : Blk W9 w.heap.size 29 #[.int .i64 (oI al), .int .i64 (oT al), .slice Ax (oZ al).length cx, .slice Ay (oD al).length cy] := by rw [hW9]; exact (((Blk.set_ HKR.out 0 _).set_ 1 _).set_ 2 _).set_ 3 _
       have hg9 : w6.grownBy W9 (some w.heap.size) := by rw [hW9]; exact grown_drewN (grown_then (grown_then (grown_then (grown_setCell w6 w.heap.size 0 _) (grown_setCell _ w.heap.size 1 _) (.inl rfl)) (grown_setCell _ w.heap.size 2 _) (.inl rfl)) (grown_setCell _ w.heap.size 3 _) (.inl rfl)) 1
       have hK5 : Blk W9 w5.heap.size 29 _ := HK6.out.grown hg9 (by intro e; injection e with e; exact hne e.symm)
       obtain ⟨b0, b1, b2, b3, _⟩ := blk4_cells hK5
       have HZ9 := Lib.hid (show Is W9 wr.heap.size (.slice Ax (oZ al).length cx) (oZ al) from Own.kept HZ6.out hg9 (.inr (fun e => by have := (Own.lt HZ6.out w.heap.size e).1; omega)))
       have HD9 := Lib.hid (show Bs W9 wr.heap.size (.slice Ay (oD al).length cy) (oD al) from Own.kept HD6.out hg9 (.inr (fun e => by have := (Own.lt HD6.out w.heap.size e).1; omega)))
       have HV9 := Lib.hid (show Bs W9 w3.heap.size (.slice Av2 FL.length cw) FL from Own.kept HV6.out hg9 (.inr (fun e => by have := (Own.lt HV6.out w.heap.size e).1; omega)))
       have HB9 := Lib.hid (HB6.out.grown hg9 (by omega) (fun k hk => by injection hk with hk; omega))
       have HK9 := Lib.hid hK9
       have m1 := str_of cw (bs_rd HV9.out)
       have m2 := str_of c (HRA.out.below HB9.out)
       rw [← hW9]
       clear hW9 hK9 hg9 hK5
       refine hK.out _ _ ⟨b0, b1, b2, b3, m1, m2⟩ (fun hHeld => ?_)
       clear hK K
       try simp only [Act.put, List.setIfInBounds_toArray, List.set_cons_zero, List.set_cons_succ]
       refine held_sole 17 (by simp) (by kernel_rfl) (fun K hK => ?_)
       simp only [List.getElem_cons_zero, List.getElem_cons_succ]
       go_simp
       refine hK.out _ _ ⟨b0, b1, b2, b3, m1, m2⟩ (fun hHeld => ?_)
       clear hK K
       try simp only [Act.put, List.setIfInBounds_toArray, List.set_cons_zero, List.set_cons_succ]
       refine wpAnyH_done (by kernel_rfl) ?_ _
       have hob2 : ob = false := by
        rw [HOB.out, decide_eq_false HNE.out, Bool.false_and, Bool.and_false]
       have HO2 := Lib.hid hob2
       clear hob2 hHeld b0 b1 b2 b3 m1 m2 k1 k2
       go_wp2_with fail
       refine bodyPost_ret (results_open (fn := Tryz.f84) rfl _ _ w.heap.size _ _ _ _ rfl HK9.out) rfl ?_
       refine ⟨_, oI al, oT al, oZ al, oD al, by rw [HO2.out]; rfl, ⟨_, _, rfl, HZ9.out.mono (by omega), HD9.out.mono (by omega), HAP.out⟩, fun _ => ⟨rfl, rfl, rfl, rfl⟩, HB9.out⟩
end Go.Proofs.YteehkcpokgeipaaGreatDoor
