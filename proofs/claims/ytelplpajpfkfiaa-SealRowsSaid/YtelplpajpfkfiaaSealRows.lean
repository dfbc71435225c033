/- Pieces one behind another, spoilt anywhere: the walk of the statement. No condition. -/
import Derived.Test.YtelplpajpfkfiaaSealL
import Derived.Test.YtelplpajpfkfiaaOpenR
import Derived.Deep.DeepCutAuto
import Derived.Deep.CutBlock
import Derived.BigQuiet
set_option linter.unusedVariables false
namespace Go.Proofs.Ytelplpajpfkfiaa
open Go.RowKit Oct

set_option maxHeartbeats 4000000 in
set_option maxRecDepth 100000 in
theorem sealRows_walk (w : World) (A : Option Addr) (ps : List Row) (cp : Nat) (hps : InRows w A ps cp) (at_ : Int) (hat : -9223372036854775808 ≤ at_ ∧ at_ ≤ 9223372036854775807) (by_ : Int) (hby : 0 ≤ by_ ∧ by_ ≤ 255) (cut : Int) (hcut : -9223372036854775808 ≤ cut ∧ cut ≤ 9223372036854775807) (B : Option Addr) (b : List UInt8) (cb : Nat) (hb : In8 w B b cb) :
    Calls Try.prog 13 #[.slice A ps.length cp, .int .i64 at_, .int .u8 by_, .int .i64 cut, .slice B b.length cb] w fun e w' => e = .returned (.bool true) ∧ Below w.heap.size w w' := by
  by_cases h1 : 1048576 < b.length
  · go_enter Try.func13, Try.ntmps13
    go_wp2
    go_ret
    exact ⟨rfl, Below.refl _ _⟩
  have hle2 := hb.le
  have hcap2 := hb.cap
  have hpc := hps.le
  have hpk := hps.cap
  have FIT := Lib.hid hps.fit
  have HAT := Lib.hid hat
  have HBY := Lib.hid hby
  have HCUT := Lib.hid hcut
  clear hat hby hcut
  go_enter Try.func13, Try.ntmps13
  go_upto_block 0 with fail
  go_cut [11] (fun v wx => ∃ acc : List UInt8, Bs wx w.heap.size v acc ∧ acc.length ≤ 20972000 ∧ Below w.heap.size w wx)
  case first =>
    go_wp2_with fail
    go_loopw [12, 11, 13, 14] (fun i v _ _ wr => ∃ (k : Nat) (acc : List UInt8), k ≤ ps.length ∧ k ≤ 20 ∧ i = .int .i64 k ∧ Bs wr w.heap.size v acc ∧ acc.length ≤ k * 1048600 ∧ Below w.heap.size w wr) (fun i _ _ _ _ => ps.length - (intOf i).toNat)
    case atStart => exact ⟨0, [], by omega, by omega, rfl, Own.nil _ _ _, by simp, Below.refl _ _⟩
    case round =>
      obtain ⟨k, acc, hk, hk2, rfl, hov, hacc, hbw⟩ := hrel
      by_cases hlt : k < ps.length ∧ k < 20
      · obtain ⟨hlt, hlt2⟩ := hlt
        obtain ⟨ad, rfl, hbk, hcell⟩ := rd_at (hps.rd.below hbw) hlt
        have hrow := hps.rows _ (List.getElem_mem hlt)
        have hft := hps.fit _ (List.getElem_mem hlt)
        obtain ⟨a, l, c, hr⟩ : ∃ a l c', ps[k] = Row.mk a l c' := ⟨_, _, _, rfl⟩
        rw [hr] at hcell hrow hft
        have hcell' : wr.cell? (ad.add k) = some (.slice a l.length c) := hcell
        obtain ⟨hf1, hf2, hf3⟩ : l.length ≤ 140737488351232 ∧ l.length ≤ c ∧ c ≤ 140737488351232 := hft
        have hrl : Rd wr wr.heap.size a (cells l) := (hrow.1.below hbw).more hbw.size
        have hkI : (k : Int) < ps.length := by omega
        clear hcell hrow hr
        obtain ⟨Ab, cb', rfl, hcb', hmb, _⟩ := bs_shape hov
        go_wp2_with fail
        refine (rclose_any a l _ c rfl wr hrl (by omega)).mono ?_
        rintro e w1 ⟨v1, rfl, hov1, hb1⟩
        have hb11 := hbw.trans (hb1.mono hbw.size)
        have hov' := hov.below hb1 (Nat.le_refl _)
        rcases closeE_cases l with ⟨_, he, hpe⟩ | ⟨hl2, he, hpe, _, hlen⟩
        · rw [he]
          clear hov' hov1 he hov hpe
          go_wp2
          go_ret
          exact ⟨rfl, hb11⟩
        · rw [he]
          obtain ⟨A1, c1, rfl, hc1, hm1, hr1⟩ := bs_shape hov1
          clear he hov1 hov hrl hpe
          go_wp2_with (at_builtin; refine wpList_append_any rfl (.tmp 50) (.tmp 51) 22 rfl w.heap.size 5 (.int .u8 0) 1 Try.underlying22 info_u8 rfl _ (cells acc) rfl hov' _ A1 (closeS l).length c1 _ rfl (cells_length _).symm hr1 (bytes_one _) (by rw [cells_length]; unfold maxLen; omega) (by rw [cells_length]; omega) hb11.size ?_; intro v2 w2 hov2 hg2 hf2)
          rw [← cells_append] at hov2
          have hb12 := hb11.grown hg2 hb11.size (fun g hg => (hov'.lt g hg).1)
          have hov2' : Bs w2 w.heap.size v2 (acc ++ closeS l) := hov2
          have hlen2 : (acc ++ closeS l).length ≤ (k + 1) * 1048600 := by rw [List.length_append]; omega
          have HL2 := Lib.hid hlen2
          clear hov2 hg2 hf2 hr1 hov' hlen2
          go_wp2_with fail
          go_roundw
          case rel => exact ⟨k + 1, _, by omega, by omega, by go_num, hov2', HL2.out, hb12⟩
          case measure => simp [intOf]; omega
      · have hacc2 : acc.length ≤ 20972000 := by omega
        clear hacc
        by_cases hlt2 : k < ps.length
        · have hk20 : ¬ k < 20 := by omega
          go_wp2_with fail
          go_meet
          exact ⟨acc, hov, hacc2, hbw⟩
        · go_wp2_with fail
          go_meet
          exact ⟨acc, hov, hacc2, hbw⟩
  case rest =>
    obtain ⟨acc, hov, hacc, hbw⟩ := hcut
    obtain ⟨Ab, cb', hvb, hcb', hmb, _⟩ := bs_shape hov
    subst hvb
    go_upto_region 12 with (at_builtin; refine wpList_append_any rfl (.tmp 53) (.tmp 54) 22 rfl w.heap.size 5 (.int .u8 0) 1 Try.underlying22 info_u8 rfl _ (cells acc) rfl hov _ B b.length cb _ rfl (cells_length _).symm ((hb.rd.below hbw).more hbw.size) (bytes_one _) (by rw [cells_length]; unfold maxLen; omega) (by rw [cells_length]; omega) hbw.size ?_; intro v2 w2 hov2 hg2 hf2)
    rw [← cells_append] at hov2
    have hb2 := hbw.grown hg2 hbw.size (fun g hg => (hov.lt g hg).1)
    obtain ⟨X, hX⟩ : ∃ X, X = acc ++ b := ⟨_, rfl⟩
    have hXl : X.length ≤ 33554432 := by rw [hX, List.length_append]; omega
    rw [← hX] at hov2
    have hov2' : Bs w2 w.heap.size v2 X := hov2
    clear hov2 hg2 hf2 hov hbw hX hcb' hmb hacc
    go_cut [63] (fun s63 wx => s63 = .bool (decide (0 ≤ at_ ∧ at_ < X.length)) ∧ wx = w2)
    case first =>
      have hAT := HAT.out
      obtain ⟨A2, c2, rfl, hc2, hm2, hr2⟩ := bs_shape hov2'
      clear hr2
      by_cases h2 : 0 ≤ at_
      · have h3 : at_ < X.length ∨ ¬ at_ < X.length := by omega
        have hd : decide (0 ≤ at_ ∧ at_ < (X.length : Int)) = decide (at_ < (X.length : Int)) := by simp [h2]
        have HD := Lib.hid hd
        clear hd h3
        go_wp2_with fail
        go_meet
        exact ⟨by rw [HD.out], rfl⟩
      · have hd : decide (0 ≤ at_ ∧ at_ < (X.length : Int)) = false := by simp; omega
        have HD := Lib.hid hd
        clear hd
        go_wp2_with fail
        go_meet
        exact ⟨by rw [HD.out], rfl⟩
    case rest =>
      obtain ⟨rfl, rfl⟩ := hcut
      go_upto_if 63 with fail
      go_cut [11] (fun v wx => ∃ Y : List UInt8, Bs wx w.heap.size v Y ∧ Y.length ≤ 33554432 ∧ Below w.heap.size w wx)
      case first =>
        by_cases hr : 0 ≤ at_ ∧ at_ < X.length
        · rw [decide_eq_true hr]
          obtain ⟨n, rfl⟩ := Int.eq_ofNat_of_zero_le hr.1
          obtain ⟨y, rfl⟩ := Int.eq_ofNat_of_zero_le HBY.out.1
          have hy := HBY.out.2
          have hn : n < X.length := by omega
          rcases Own.whole hov2' with ⟨_, h0⟩ | ⟨g, cap, cur, rfl, hbg, hg, hblk, hnc, hcm, hcs, htk⟩
          · have : (cells X).length = 0 := by rw [h0]; rfl
            rw [cells_length] at this
            omega
          · have hst := World.ownsRow.stored hov2' n (.int .u8 (((X[n] ^^^ UInt8.ofNat y).toNat : Nat) : Int))
            rw [cells_length] at hnc hst ⊢
            have hcell : wc.cell? ⟨g, n, none⟩ = some (.int .u8 (X[n].toNat : Int)) := by
              have := World.ownsRow.cells hov2' rfl n (.int .u8 (X[n].toNat : Int)) (by simp [cells, hn])
              simpa [Addr.add_lit] using this
            have hfz := Blk.frozen (cs := cur) hblk n
            have hx : bits .xor .u8 (X[n].toNat : Int) (y : Int) = (((X[n] ^^^ UInt8.ofNat y).toNat : Nat) : Int) := by
              have := X[n].toNat_lt
              rw [u8_xor _ _ (by omega) (by omega) (by omega) (by omega)]
              rw [UInt8.toNat_xor, UInt8.toNat_ofNat', Nat.mod_eq_of_lt (by omega : y < 256)]
              rfl
            have hov3 : Bs (wc.setCell ⟨g, n, none⟩ (.int .u8 (((X[n] ^^^ UInt8.ofNat y).toNat : Nat) : Int))) w.heap.size (.slice (some ⟨g, 0, none⟩) X.length cap) (X.set n (X[n] ^^^ UInt8.ofNat y)) := by
              have h1 := hst.1
              have e1 : (cells X).set n (.int .u8 (((X[n] ^^^ UInt8.ofNat y).toNat : Nat) : Int)) = cells (X.set n (X[n] ^^^ UInt8.ofNat y)) := by simp [cells, List.map_set]
              have e2 : X.length = (cells (X.set n (X[n] ^^^ UInt8.ofNat y))).length := by simp [cells]
              rw [e1] at h1
              unfold Bs Own
              rw [← e2]
              exact h1
            have hb3 : Below w.heap.size w (wc.setCell ⟨g, n, none⟩ (.int .u8 (((X[n] ^^^ UInt8.ofNat y).toNat : Nat) : Int))) := hb2.setCell hbg _
            have hYl : (X.set n (X[n] ^^^ UInt8.ofNat y)).length ≤ 33554432 := by rw [List.length_set]; omega
            have HV := Lib.hid hov3
            have HY := Lib.hid hYl
            have hnI : (n : Int) < X.length := by omega
            generalize X[n] ^^^ UInt8.ofNat y = z at hx hb3 HV HY
            clear hst hov2' hblk htk hov3 hYl hcs hr hcm
            go_wp2_with fail
            go_meet
            exact ⟨_, HV.out, HY.out, hb3⟩
        · rw [decide_eq_false hr]
          go_wp2_with fail
          go_meet
          exact ⟨X, hov2', hXl, hb2⟩
      case rest =>
        obtain ⟨Y, hov3, hYl, hb3⟩ := hcut
        clear hov2' hb2 hXl
        go_upto_region 14 with fail
        obtain ⟨A2, c2, hv2, hc2, hm2, hr2⟩ := bs_shape hov3
        subst hv2
        go_cut [80] (fun s80 wx => s80 = .bool (decide (0 ≤ cut ∧ cut < Y.length)) ∧ wx = wc)
        case first =>
          have hCUT := HCUT.out
          clear hr2 hov3
          by_cases h2 : 0 ≤ cut
          · have hd : decide (0 ≤ cut ∧ cut < (Y.length : Int)) = decide (cut < (Y.length : Int)) := by simp [h2]
            have HD := Lib.hid hd
            clear hd
            go_wp2_with fail
            go_meet
            exact ⟨by rw [HD.out], rfl⟩
          · have hd : decide (0 ≤ cut ∧ cut < (Y.length : Int)) = false := by simp; omega
            have HD := Lib.hid hd
            clear hd
            go_wp2_with fail
            go_meet
            exact ⟨by rw [HD.out], rfl⟩
        case rest =>
          obtain ⟨rfl, rfl⟩ := hcut
          go_upto_if 80 with fail
          go_cut [11] (fun v wx => ∃ (A : Option Addr) (c : Nat) (Z : List UInt8), v = .slice A Z.length c ∧ Z.length ≤ 33554432 ∧ Z.length ≤ c ∧ c ≤ 9223372036854775807 ∧ Rd wx wx.heap.size A (cells Z) ∧ Below w.heap.size w wx)
          case first =>
            by_cases hr : 0 ≤ cut ∧ cut < Y.length
            · rw [decide_eq_true hr]
              obtain ⟨n, rfl⟩ := Int.eq_ofNat_of_zero_le hr.1
              have hn : n < Y.length := by omega
              have hrt : Rd wc wc.heap.size A2 (cells (Y.take n)) := by simpa [cells, List.map_take] using hr2.take n
              have hcutr := fun W : World => run_cut_to (P := Try.prog) Try.underlying22 info_u8 A2 Y.length c2 n (by omega) (n : Int) rfl W
              have hlt : (Y.take n).length = n := by rw [List.length_take]; omega
              have HLT := Lib.hid hlt
              clear hr hr2 hov3 hlt
              go_wp2_with fail
              go_meet
              exact ⟨A2, c2, Y.take n, by rw [HLT.out], by rw [HLT.out]; omega, by rw [HLT.out]; omega, by omega, hrt, hb3⟩
            · rw [decide_eq_false hr]
              clear hov3
              go_wp2_with fail
              go_meet
              exact ⟨A2, c2, Y, rfl, hYl, hc2, by omega, hr2, hb3⟩
          case rest =>
            obtain ⟨A5, c5, Z, hv5, hZl, hZc, hm5, hr5, hb5⟩ := hcut
            subst hv5
            clear hr2 hov3 hb3 hYl hc2 hm2
            obtain ⟨wy, hwy⟩ : ∃ wy : World, wy = wc := ⟨_, rfl⟩
            rw [← hwy] at hr5 hb5 ⊢
            clear hwy
            go_wp2_with fail
            refine (lent_any A5 Z c5 wy hr5 (by omega)).mono ?_
            rintro e x1 ⟨rfl, hl1, hx1⟩
            have hlt1 := Blk.lt hl1
            have hbx1 := hb5.trans (hx1.mono hb5.size)
            go_wp2_with fail
            refine (rows_any (some ⟨wy.heap.size, 0, none⟩) Z _ (Z.length + 1) rfl x1 (hl1.rd.more hl1.lt) (by omega) ⟨by omega, by omega⟩).mono ?_
            rintro e x2 ⟨vl, xs, rfl, hg2, hx2⟩
            have hl2 := hl1.below hx2 hl1.lt
            have hx12 := hx1.trans (hx2.mono hx1.size)
            have hbx2 := hb5.trans (hx12.mono hb5.size)
            clear hl1
            go_wp2_with fail
            refine (rrows_any A5 Z _ c5 rfl x2 ((hr5.below hx12).more hx12.size) hZc ⟨by omega, hm5⟩).mono ?_
            rintro e x3 ⟨vm, ys, rfl, hg3, hx3⟩
            have hl3 := hl2.below hx3 hl2.lt
            have hx13 := hx12.trans (hx3.mono hx12.size)
            have hbx3 := hb5.trans (hx13.mono hb5.size)
            have hg23 := hg2.below hx3 (Nat.le_refl _)
            have hs1 := hx1.size
            have hs2 := hx2.size
            have hs3 := hx3.size
            have HLO := Lib.hid hg2.own.lt
            clear hl2 hx12 hg2 hx2 hx3
            go_wp2_with fail
            refine (kept_any wy.heap.size A5 Z c5 wy.heap.size x3 hl3 (hr5.below hx13) (by omega)).mono ?_
            rintro e x4 ⟨rfl, rfl⟩
            obtain ⟨Al, cl, hvl, hcl, hml, hrl⟩ := Own.shape hg23.own
            obtain ⟨Am, cm, hvm, hcm, hmm, hrm⟩ := Own.shape hg3.own
            have hnl : xs.length = (rowsS Z).1.length := hg23.len
            have hnm : ys.length = (rowsS Z).1.length := hg3.len
            have hLlen : (rowsS Z).1.length ≤ 33554432 := Nat.le_trans (rowsS_len Z) hZl
            have HG2 := Lib.hid hg23
            have HG3 := Lib.hid hg3
            have HL3 := Lib.hid hl3
            have HVL := Lib.hid hvl
            have HRL := Lib.hid hrl
            have HRM := Lib.hid hrm
            rw [hnl] at hvl hcl
            rw [hnm] at hvm hcm
            subst hvl
            subst hvm
            have HNL := Lib.hid hnl
            have HNM := Lib.hid hnm
            obtain ⟨L, hL⟩ : ∃ L, L = (rowsS Z).1 := ⟨_, rfl⟩
            rw [← hL] at hLlen hcl hcm HG2 HG3 HNL HNM ⊢
            clear hg23 hg3 hl3 hrl hrm hnl hnm hL
            go_wp2_with fail
            go_loopw [23] (fun i wr => ∃ k : Nat, k ≤ L.length ∧ i = .int .i64 k ∧ Hid (GotRows wr x1.heap.size (.slice Al L.length cl) xs L) ∧ Hid (GotRows wr x2.heap.size (.slice Am L.length cm) ys L) ∧ Hid (LentAt wr wy.heap.size Z) ∧ x1.heap.size ≤ wr.heap.size ∧ Below w.heap.size w wr) (fun i _ => L.length - (intOf i).toNat)
            case atStart => exact ⟨0, by omega, rfl, HG2, HG3, HL3, by omega, hbx3⟩
            case round =>
              obtain ⟨k, hk, rfl, g2, g3, gl, hsx, hbr⟩ := hrel
              by_cases hlt : k < L.length
              · obtain ⟨ad, a1, e1, rfl, _, hcell, hrd, _⟩ := g2.out.at_ hlt
                obtain ⟨ad', a2, e2, rfl, _, hcell', hrd', _⟩ := g3.out.at_ hlt
                have q1 := fun nq : Nat => str_of e1 (hrd.drewN nq)
                have q2 := fun nq : Nat => str_of e2 (hrd'.drewN nq)
                have hkI : (k : Int) < L.length := by omega
                generalize L[k] = lk at hcell hcell' q1 q2
                clear hrd hrd'
                go_wp2_with fail
                go_quiet (fail)
                go_wp2_with fail
                go_roundw
                case rel => exact ⟨k + 1, by omega, by go_num, Lib.hid (g2.out.drewN _), Lib.hid (g3.out.drewN _), Lib.hid (Blk.drewN gl.out _), hsx, below_drewN hbr _⟩
                case measure => simp [intOf]; omega
              · obtain rfl : k = L.length := by omega
                have hown := g2.out.own
                have hne1 : ∀ x ∈ xs, x.ownBlock ≠ some wy.heap.size := by
                  intro x hx he
                  obtain ⟨i, hi, rfl⟩ := List.getElem_of_mem hx
                  have := (g2.out.got i hi (by rw [← g2.out.len]; exact hi)).row.base _ he
                  omega
                have hne2 : Value.ownBlock (.slice Al L.length cl) ≠ some wy.heap.size := fun he => by
                  have := (hown.lt _ he).1
                  omega
                have hxl : xs.length ≤ 33554432 := by rw [HNL.out]; exact hLlen
                have NE1 := Lib.hid hne1
                have NE2 := Lib.hid hne2
                clear hne1 hne2
                go_wp2_with (at_builtin; refine wpList_push2 (w := wr) rfl (.tmp 137) (.tmp 139) 34 rfl x1.heap.size 22 (.slice none 0 0) 24 Try.underlying34 info_bytes rfl _ xs _ rfl rfl hown rfl rfl (by omega) (by omega) hsx ?_; intro v7 x7 hov7 hg7 hf7)
                have hbr7 : Below w.heap.size w x7 := hbr.grown hg7 hbr.size (fun g hg => by have := (hown.lt g hg).1; have := hb5.size; omega)
                refine (owned_rows g2.out gl.out (by omega) rfl rfl NE1.out NE2.out hov7 hg7 hf7 (base' := w.heap.size) (by have := hb5.size; omega) hb5.size (by omega)).mono ?_
                rintro e x8 ⟨rfl, hb8⟩
                have hbr8 := hbr7.trans hb8
                clear hown hov7 hg7 hf7 g2 g3 gl hbr hbr7 hb8
                go_wp2_with fail
                refine (close_any none [] 0 0 rfl x8 (cells_nil ▸ Rd.none_) (by simp)).mono ?_
                rintro e x9 ⟨v9, rfl, hg9, hb9⟩
                have hbr9 := hbr8.trans (hb9.mono hbr8.size)
                rw [closeS_nil.1]
                obtain ⟨A9, c9, rfl, _⟩ := hg9.shape
                rw [closeS_nil.2]
                clear hg9 hb9
                go_wp2
                go_ret
                exact ⟨rfl, hbr9⟩
end Go.Proofs.Ytelplpajpfkfiaa
