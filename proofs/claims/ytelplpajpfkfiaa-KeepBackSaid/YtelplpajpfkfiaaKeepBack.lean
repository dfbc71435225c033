/- KeepBack: the pieces are the snapshot, whatever came ahead: the walk. Condition: the arguments can be read, within the form's reach. -/
import Derived.Test.YtelplpajpfkfiaaKeepPutN
import Derived.Test.YtelplpajpfkfiaaKeepWant
import Derived.Test.YtelplpajpfkfiaaKeepBackP
import Derived.Test.YtelplpajpfkfiaaOpenP
set_option linter.unusedVariables false
namespace Go.Proofs.Ytelplpajpfkfiaa
open Go.RowKit Oct

theorem backS_ok {s0 : Inb} (hs : s0.ok) {i t : Int} {L : List UInt8} (hi : 0 ≤ i ∧ i ≤ 1099511627776) (ht : 0 ≤ t ∧ t ≤ 1099511627776) (hL : L.length ≤ 1052000) (k : Nat) : (backS s0 i t L k).ok := by
  have hn : (chunksL L).length = (L.length + 399) / 400 := chunksL_length L
  unfold backS
  by_cases h0 : k = 0
  · rw [if_pos h0]; exact hs
  · rw [if_neg h0]
    by_cases h1 : k < (chunksL L).length
    · rw [if_pos h1]
      refine .inr ⟨?_, ?_, ?_, ?_, hi, ht, ?_⟩
      · show 0 < (L.take (400 * k)).length
        rw [List.length_take]; omega
      · show (1 : Int) ≤ k; omega
      · show (k : Int) < ((chunksL L).length : Int); omega
      · show ((chunksL L).length : Int) ≤ 4096; omega
      · show ((L.take (400 * k)).length : Int) ≤ 400 * (k : Int)
        rw [List.length_take]; omega
    · rw [if_neg h1]; exact .inl rfl
theorem InbAt.below {w w' : World} {g : Nat} {s : Inb} {v : Value} (h : InbAt w g s v) {B : Nat} (hb : Below B w w') (hB : w.heap.size ≤ B) : InbAt w' g s v :=
  ⟨Blk.below h.1 hb (by have := h.1.lt; omega), Own.below h.2 hb hB⟩
/-- What Put leaves of the rest. -/
theorem But.belowG {g B : Nat} {v : Value} {w w' : World} (h : But (ptrV g) v w w') (hv : ∀ q, v.ownBlock = some q → g < q) (hB : B ≤ g) (hs : B ≤ w.heap.size) : Below B w w' := by
  refine ⟨h.os, h.tape, h.output, h.size, fun k hk => h.block k (by omega) (fun e => ?_) (fun e => ?_)⟩
  · have h2 : g = k := by simpa [ptrV, Value.ownBlock] using e
    omega
  · have := hv k e
    omega

set_option maxHeartbeats 8000000 in
set_option maxRecDepth 100000 in
theorem keepBack_walk (w : World) (i : Int) (hi : -9223372036854775808 ≤ i ∧ i ≤ 9223372036854775807) (t : Int) (ht : -9223372036854775808 ≤ t ∧ t ≤ 9223372036854775807) (Av : Option Addr) (z : List Int) (cv : Nat) (hz : InInts w Av z cv) (Ad : Option Addr) (l : List UInt8) (cd : Nat) (hl : In8 w Ad l cd)
    (A : Option Addr) (ps : List Pc) (c : Nat) (hps : InPcs w A ps c) :
    Calls Try.prog 17 #[.agg #[.int .i64 i, .int .i64 t, .slice Av z.length cv, .slice Ad l.length cd], .slice A ps.length c] w fun e w' => e = .returned (.bool true) ∧ Below w.heap.size w w' := by
  have hS0 := Lib.hid (snapAt_new w i t (.slice Av z.length cv) (.slice Ad l.length cd))
  have hb0 := Lib.hid ((Below.refl w.heap.size w).alloc (Nat.le_refl _) (Obj.cells #[.int .i64 i, .int .i64 t, .slice Av z.length cv, .slice Ad l.length cd] 59))
  have HIN := Lib.hid (And.intro hz (And.intro hl hps))
  have hll : l.length ≤ 140737488351232 := Nat.le_trans hl.le hl.cap
  have hzl : z.length ≤ 140737488351232 := by have := hz.le; have := hz.cap; omega
  have hpl : ps.length ≤ 140737488351232 := by have := hps.le; have := hps.cap; omega
  clear hz hl hps hi ht
  go_enter Try.func17, Try.ntmps17
  go_wp2_with fail
  refine (keepSmall _).mono ?_
  rintro e w1 ⟨rfl, hb1⟩
  have hs1 : w.heap.size + 1 ≤ w1.heap.size := by have := hb1.size; simp at this; exact this
  have hS1 := Lib.hid (hS0.out.below hb1 (by simp))
  have hb01 := Lib.hid (hb0.out.trans (hb1.mono hb0.out.size))
  clear hb1 hb0 hS0
  obtain ⟨s0, s1, s2, s3⟩ := hS1.out
  obtain ⟨hz, hl, hps⟩ := HIN.out
  go_wp2_with fail
  refine (bytes_any i t Av Ad z l _ cv _ cd rfl rfl w1 ((hz.rd.below hb01.out).more hb01.out.size) ((hl.rd.below hb01.out).more hb01.out.size) hz.wf hzl (by omega)).mono ?_
  rintro e w2 ⟨p, rfl, hp2, hb2⟩
  obtain ⟨Ap, cp, rfl, hcp, hcp2, -⟩ := hp2.shape
  have hs2 : w1.heap.size ≤ w2.heap.size := hb2.size
  have hS2 := Lib.hid (hS1.out.below hb2 (by omega))
  have hb02 := Lib.hid (hb01.out.trans (hb2.mono hb01.out.size))
  have HP2 := Lib.hid hp2
  clear hb2 hS1 hb01 hp2 s0 s1 s2 s3
  obtain ⟨s0, s1, s2, s3⟩ := hS2.out
  go_wp2_with fail
  refine (pieces_any i t Av Ad z l _ cv _ cd rfl rfl w2 ((hz.rd.below hb02.out).more hb02.out.size) ((hl.rd.below hb02.out).more hb02.out.size) hz.wf hzl (by omega)).mono ?_
  rintro e w3 ⟨vp, xs, rfl, hP3, hb3⟩
  obtain ⟨Avp, cvp, rfl, hcvp, -, hvp⟩ := hP3.shape
  have HVP := Lib.hid hvp
  have hs3 : w2.heap.size ≤ w3.heap.size := hb3.size
  have hS3 := Lib.hid (hS2.out.below hb3 (by omega))
  have hb03 := Lib.hid (hb02.out.trans (hb3.mono hb02.out.size))
  have HP3 := Lib.hid (HP2.out.below hb3 (Nat.le_refl _))
  have HPC3 := Lib.hid hP3
  clear hb3 hS2 hb02 HP2 hP3 hvp s0 s1 s2 s3
  go_wp2_with fail
  refine (newInbox_any w3).mono ?_
  rintro e w4 ⟨rfl, hI4, hb4, hlt4⟩
  obtain ⟨G, hG⟩ : ∃ G, G = w3.heap.size := ⟨_, rfl⟩
  rw [← hG] at hI4 hb4 hlt4 hs3
  have hGw : w.heap.size < G := by omega
  have HG := Lib.hid hG
  have HI4 := Lib.hid hI4
  have HB34 := Lib.hid hb4
  rw [← hG]
  clear hI4 hb4 hG
  by_cases hm : mayB i t z l = true
  · have hE : snapE i t z l = 0 := if_pos hm
    rw [hE]
    have HM := Lib.hid (may_len hm)
    have HRD := Lib.hid (snapS_read (l := l) hm hz.wf)
    have hLle : (snapS i t z l).length ≤ 1052000 := snapS_le hm hz.wf
    have hLpos : 0 < (snapS i t z l).length := snapS_pos hm
    have hNL : xs.length = (chunksL (snapS i t z l)).length := HPC3.out.len
    obtain ⟨A', c', hv', hle', hpc⟩ := HPC3.out.pcRd
    injection hv' with e1 e2 e3
    subst e1
    rw [← HG.out] at hpc
    have HPCR := Lib.hid hpc
    clear hE hm hpc e2 e3 hle' HPC3
    obtain ⟨Ap2, cp2, hvp2, -, -, hprd⟩ := HP3.out.shape
    injection hvp2 with e4 e5 e6
    subst e4
    rw [← HG.out] at hprd
    have HPRD := Lib.hid hprd
    clear hprd e5 e6 HP3
    generalize snapS i t z l = L at HRD hLle hLpos hNL HPCR HPRD hcp ⊢
    have hNl : xs.length = (L.length + 399) / 400 := by rw [hNL, chunksL_length]
    have hN1 : 1 ≤ xs.length := by omega
    have hN2 : xs.length ≤ 2631 := by omega
    have HNL := Lib.hid hNL
    have HNl := Lib.hid hNl
    clear hNL hNl
    go_wp2_with fail
    go_loopw [11] (fun n wr => ∃ (k : Nat) (s : Inb) (v : Value), k ≤ 50 ∧ n = .int .i64 k ∧ Hid s.ok ∧ Hid (InbAt wr G s v) ∧ Hid (Below G w4 wr)) (fun n _ => 50 - (intOf n).toNat)
    case atStart => exact ⟨0, inb0, _, by omega, rfl, Lib.hid (.inl rfl), HI4, Lib.hid (Below.refl _ _)⟩
    case round =>
      obtain ⟨k, s, v, hk, rfl, hok, hI, hB⟩ := hrel
      by_cases hlt : k < ps.length ∧ k < 50
      · obtain ⟨hlt, hlt2⟩ := hlt
        have hltI : (k : Int) < ps.length := by omega
        have hltI2 : (k : Int) < 50 := by omega
        obtain ⟨ad, rfl, hadl, hgood⟩ := hps.at_ k hlt
        obtain ⟨o, had, a0, a1, a2, a3, a4⟩ := pc_lit hgood
        obtain ⟨-, -, -, -, -, bi, bt, bn, bm, h8⟩ := hgood
        have hbT := Lib.hid (hb03.out.trans ((HB34.out.trans hB.out).mono (Nat.le_of_lt hGw)))
        have hcell : ∀ j, wr.cell? ⟨ad.block, j, none⟩ = w.cell? ⟨ad.block, j, none⟩ := fun j => hbT.out.cell (p := ⟨ad.block, j, none⟩) hadl
        replace a0 := (hcell _).trans a0
        replace a1 := (hcell _).trans a1
        replace a2 := (hcell _).trans a2
        replace a3 := (hcell _).trans a3
        replace a4 := (hcell _).trans a4
        have hput := keepPut_any G s hok.out v ps[k].i ps[k].t ps[k].n ps[k].m bi bt bn bm ps[k].A ps[k].l ps[k].l.length ps[k].c rfl wr hI.out ((h8.rd.below hbT.out).more hbT.out.size) (Nat.le_trans h8.le h8.cap) (fun ad2 had2 hn e => by
          obtain ⟨ad3, had3, hb3, -⟩ := h8.rd (by rw [cells_length]; exact hn)
          rw [had2] at had3
          injection had3 with had3
          subst had3
          omega)
        unfold pcV at hput
        have HPUT := Lib.hid hput
        clear hput hcell h8 bi bt bn bm
        go_wp2_with fail
        refine HPUT.out.mono ?_
        rintro e w5 ⟨V, v5, rfl, hV, hI5, hbut, hnx, -⟩
        have hvb : ∀ q, v.ownBlock = some q → G < q := fun q hq => by have := (Own.lt hI.out.2 q hq).1; omega
        have HI5 := Lib.hid hI5
        have HO5 := Lib.hid (putS_ok hok.out ps[k].i ps[k].t ps[k].n ps[k].m ps[k].l)
        have HB5 := Lib.hid (hB.out.trans ((hbut.belowG hvb (Nat.le_refl _) (Nat.le_of_lt hI.out.1.lt))))
        clear hI5 hbut hnx hV HPUT hI hvb
        go_wp2
        go_roundw
        case rel => exact ⟨k + 1, _, v5, by omega, by go_num, HO5, HI5, HB5⟩
        case measure => simp [intOf]; omega
      · rcases Nat.lt_or_ge k ps.length with h4 | h4
        · have h5 : ¬ (k : Int) < 50 := by omega
          have h6 : (k : Int) < ps.length := by omega
          clear hlt
          obtain ⟨wo, rfl⟩ : ∃ wo : World, wo = wr := ⟨_, rfl⟩
          go_wp2_with fail
          go_loopw [12] (fun n wq => ∃ (q : Nat) (vq : Value), q ≤ xs.length ∧ n = .int .i64 q ∧ Hid (InbAt wq G (backS s i t L q) vq) ∧ Hid (Below G w4 wq)) (fun n _ => xs.length - (intOf n).toNat)
          case atStart => exact ⟨0, v, by omega, rfl, hI, hB⟩
          case round =>
            obtain ⟨q, vq, hq, rfl, hIq, hBq⟩ := hrel
            clear hI hB
            by_cases hlq : q < xs.length
            · have hlqI : (q : Int) < xs.length := by omega
              have hqN : q < (chunksL L).length := by rw [← HNL.out]; exact hlq
              have hpr := (HPCR.out.below (HB34.out.trans hBq.out) (Nat.le_refl G)) q hqN
              rw [chunksL_get] at hpr
              obtain ⟨g, a, c1, rfl, hgl, a0, a1, a2, a3, a4, hrd, hlc⟩ := hpr
              have hM := HM.out
              have hck : (ckL L q).length ≤ 400 := ckL_le
              have hwq : G < wr.heap.size := hIq.out.1.lt
              have hput := keepPut_any G (backS s i t L q) (backS_ok hok.out hM.2.2.2.1 hM.2.2.2.2 hLle q) vq i t q xs.length (by omega) (by omega) (by omega) (by omega) a (ckL L q) (ckL L q).length c1 rfl wr hIq.out (hrd.more (Nat.le_of_lt hwq)) (by omega) (fun ad2 had2 hn e => by
                obtain ⟨ad3, had3, hb3, -⟩ := hrd (by rw [cells_length]; exact hn)
                rw [had2] at had3
                injection had3 with had3
                subst had3
                omega)
              have hstep := back_step (s0 := s) hM.2.2.2.1 hM.2.2.2.2 hLle HRD.out.2.2.2.2.2 hqN
              rw [← HNL.out] at hstep
              unfold pcV at hput
              have HPUT := Lib.hid hput
              have HST := Lib.hid hstep
              have hvb : Hid (∀ p, vq.ownBlock = some p → G < p) := Lib.hid fun p hp => by have := (Own.lt hIq.out.2 p hp).1; omega
              clear hput hM hstep hck
              by_cases hlast : q + 1 = xs.length
              · have hl1 : decide (q + 1 = xs.length) = true := decide_eq_true hlast
                have hl2 : ((q : Int) == xs.length - 1) = true := by simpa using (by omega : (q : Int) = xs.length - 1)
                rw [hl1] at HST
                have HLAST := Lib.hid hlast
                clear hlast hl1
                go_wp2_with fail
                refine HPUT.out.mono ?_
                clear HPUT
                rintro e w6 ⟨V, v6, rfl, hV, hI6, hbut, hnx, hz1, hz2⟩
                obtain ⟨b1, b2, b3, b4, b5⟩ := HST.out
                rw [b2, b3]
                rw [b4] at hI6
                rw [b3, b5 HLAST.out] at hV
                obtain ⟨d0, d1, d2, d3, d4, d5⟩ := HRD.out
                simp only [zI, zL, if_true] at hV
                rw [d1, d2, d3, d4] at hV
                obtain ⟨vx, vy, rfl, hvx, hvy, hvxy⟩ := hV
                obtain ⟨Avx, cvx, rfl, -⟩ := is_shape hvx
                obtain ⟨Avy, cvy, rfl, -⟩ := bs_shape hvy
                have HI6 := Lib.hid hI6
                have HB6 := Lib.hid (hBq.out.trans (hbut.belowG hvb.out (Nat.le_refl _) (Nat.le_of_lt hwq)))
                clear hI6 hbut hnx hz1 hz2 hvxy b1 b2 b3 b4 b5 d0 d1 d2 d3 d4 d5 HST hvb a0 a1 a2 a3 a4
                have hs6 : G < w6.heap.size := HI6.out.1.lt
                have hb7 : Below w6.heap.size w6 (w6.alloc (.cells #[.int .i64 i, .int .i64 t, .slice Avx z.length cvx, .slice Avy l.length cvy] 59)) := (Below.refl _ w6).alloc (Nat.le_refl _) _
                have hK7 := Blk.new w6 59 #[.int .i64 i, .int .i64 t, .slice Avx z.length cvx, .slice Avy l.length cvy]
                have hs7 : (w6.alloc (.cells #[.int .i64 i, .int .i64 t, .slice Avx z.length cvx, .slice Avy l.length cvy] 59)).heap.size = w6.heap.size + 1 := by simp
                have HI7 := Lib.hid (HI6.out.below hb7 (Nat.le_refl _))
                have HB7 := Lib.hid (HB6.out.trans (hb7.mono (Nat.le_of_lt hs6)))
                have HX7 := Lib.hid (own_rd (Own.below hvx hb7 (Nat.le_refl _)))
                have HY7 := Lib.hid (own_rd (Own.below hvy hb7 (Nat.le_refl _)))
                clear hb7 hvx hvy HI6 HB6
                go_upto_region 17 with fail
                generalize w6.alloc (.cells #[.int .i64 i, .int .i64 t, .slice Avx z.length cvx, .slice Avy l.length cvy] 59) = W7 at hK7 hs7 HI7 HB7 HX7 HY7 ⊢
                have hS7 := hS3.out.below (HB34.out.trans HB7.out) hGw
                obtain ⟨s0, s1, s2, s3⟩ := hS7
                obtain ⟨r0, r1, r2, r3, _, _, _, _⟩ := blk4_cells hK7
                have hbT := hb03.out.trans ((HB34.out.trans HB7.out).mono (Nat.le_of_lt hGw))
                obtain ⟨hz, hl, -⟩ := HIN.out
                have hsm := Lib.hid (snapSame_any i t z l Avx Avy Av Ad z.length cvx l.length cvy z.length cv l.length cd W7.heap.size rfl rfl rfl rfl W7 (Nat.le_refl _) HX7.out HY7.out ((hz.rd.below hbT).more hbT.size) ((hl.rd.below hbT).more hbT.size) (by omega))
                unfold snapV at hsm
                clear hbT hK7 hz hl
                go_wp2_with fail
                refine hsm.out.mono ?_
                rintro e w8 ⟨rfl, hb8⟩
                have hs8 : G ≤ W7.heap.size := by omega
                have HI8 := Lib.hid (HI7.out.below hb8 (Nat.le_refl _))
                have HB8 := Lib.hid (HB7.out.trans (hb8.mono hs8))
                clear hb8 hsm HI7 HB7 HX7 HY7 s0 s1 s2 s3 r0 r1 r2 r3
                go_wp2
                go_roundw
                case rel => exact ⟨q + 1, v6, by omega, by go_num, HI8, HB8⟩
                case measure => simp [intOf]; omega
              · have hl1 : decide (q + 1 = xs.length) = false := decide_eq_false hlast
                have hl2 : ((q : Int) == xs.length - 1) = false := by simpa using (by omega : ¬ (q : Int) = xs.length - 1)
                rw [hl1] at HST
                clear hlast hl1
                go_wp2_with fail
                refine HPUT.out.mono ?_
                clear HPUT
                rintro e w6 ⟨V, v6, rfl, hV, hI6, hbut, hnx, hz1, hz2⟩
                obtain ⟨b1, b2, b3, b4, b5⟩ := HST.out
                have hV0 := hz2 b3
                subst hV0
                rw [b2, b3]
                rw [b4] at hI6
                have hb7 : Below w6.heap.size w6 (w6.alloc (.cells #[.int .i64 0, .int .i64 0, .slice none 0 0, .slice none 0 0] 59)) := (Below.refl _ w6).alloc (Nat.le_refl _) _
                have HI8 := Lib.hid (hI6.below hb7 (Nat.le_refl _))
                have HB8 := Lib.hid ((hBq.out.trans (hbut.belowG hvb.out (Nat.le_refl _) (Nat.le_of_lt hwq))).trans (hb7.mono (Nat.le_of_lt hI6.1.lt)))
                clear hV hI6 hbut hnx hz1 hz2 b1 b2 b3 b4 b5 HST hvb a0 a1 a2 a3 a4 hb7
                go_wp2
                go_roundw
                case rel => exact ⟨q + 1, v6, by omega, by go_num, HI8, HB8⟩
                case measure => simp [intOf]; omega
            · have hlqI : ¬ (q : Int) < xs.length := by omega
              have hN1I : (0 : Int) < xs.length := by omega
              have hwq : G < wr.heap.size := hIq.out.1.lt
              have hread := Lib.hid (read_any Ap L L.length cp rfl wr ((HPRD.out.below (HB34.out.trans hBq.out)).more (Nat.le_of_lt hwq)) hcp (by omega) hcp2)
              clear hlq
              go_wp2_with fail
              refine hread.out.mono ?_
              rintro e w6 ⟨V, rfl, hV, hb6⟩
              obtain ⟨d0, d1, d2, d3, d4, d5⟩ := HRD.out
              rw [d0]
              rw [d1, d2, d3, d4] at hV
              obtain ⟨vx, vy, rfl, hvx, hvy, hvxy⟩ := hV
              obtain ⟨Avx, cvx, rfl, -⟩ := is_shape hvx
              obtain ⟨Avy, cvy, rfl, -⟩ := bs_shape hvy
              have HI6 := Lib.hid (hIq.out.below hb6 (Nat.le_refl _))
              have HB6 := Lib.hid (hBq.out.trans (hb6.mono (Nat.le_of_lt hwq)))
              clear hvxy d0 d1 d2 d3 d4 d5 hread hb6
              have hs6 : G < w6.heap.size := HI6.out.1.lt
              have hb7 : Below w6.heap.size w6 (w6.alloc (.cells #[.int .i64 i, .int .i64 t, .slice Avx z.length cvx, .slice Avy l.length cvy] 59)) := (Below.refl _ w6).alloc (Nat.le_refl _) _
              have hK7 := Blk.new w6 59 #[.int .i64 i, .int .i64 t, .slice Avx z.length cvx, .slice Avy l.length cvy]
              have hs7 : (w6.alloc (.cells #[.int .i64 i, .int .i64 t, .slice Avx z.length cvx, .slice Avy l.length cvy] 59)).heap.size = w6.heap.size + 1 := by simp
              have HI7 := Lib.hid (HI6.out.below hb7 (Nat.le_refl _))
              have HB7 := Lib.hid (HB6.out.trans (hb7.mono (Nat.le_of_lt hs6)))
              have HX7 := Lib.hid (own_rd (Own.below hvx hb7 (Nat.le_refl _)))
              have HY7 := Lib.hid (own_rd (Own.below hvy hb7 (Nat.le_refl _)))
              clear hb7 hvx hvy HI6 HB6
              go_upto_region 20 with fail
              generalize w6.alloc (.cells #[.int .i64 i, .int .i64 t, .slice Avx z.length cvx, .slice Avy l.length cvy] 59) = W7 at hK7 hs7 HI7 HB7 HX7 HY7 ⊢
              have hS7 := hS3.out.below (HB34.out.trans HB7.out) hGw
              obtain ⟨s0, s1, s2, s3⟩ := hS7
              obtain ⟨r0, r1, r2, r3, _, _, _, _⟩ := blk4_cells hK7
              have hbT := hb03.out.trans ((HB34.out.trans HB7.out).mono (Nat.le_of_lt hGw))
              obtain ⟨hz, hl, -⟩ := HIN.out
              have hsm := Lib.hid (snapSame_any i t z l Avx Avy Av Ad z.length cvx l.length cvy z.length cv l.length cd W7.heap.size rfl rfl rfl rfl W7 (Nat.le_refl _) HX7.out HY7.out ((hz.rd.below hbT).more hbT.size) ((hl.rd.below hbT).more hbT.size) (by omega))
              unfold snapV at hsm
              clear hbT hK7 hz hl
              go_wp2_with fail
              refine hsm.out.mono ?_
              rintro e w8 ⟨rfl, hb8⟩
              have hs8 : G ≤ W7.heap.size := by omega
              have HI8 := Lib.hid (HI7.out.below hb8 (Nat.le_refl _))
              have HB8 := Lib.hid (HB7.out.trans (hb8.mono hs8))
              clear hb8 hsm HI7 HB7 HX7 HY7 s0 s1 s2 s3 r0 r1 r2 r3
              have hfin := Lib.hid (hb03.out.trans ((HB34.out.trans HB8.out).mono (Nat.le_of_lt hGw)))
              go_wp2
              go_ret
              exact ⟨rfl, hfin.out⟩
        · have h6 : ¬ (k : Int) < ps.length := by omega
          clear hlt
          obtain ⟨wo, rfl⟩ : ∃ wo : World, wo = wr := ⟨_, rfl⟩
          go_wp2_with fail
          go_loopw [12] (fun n wq => ∃ (q : Nat) (vq : Value), q ≤ xs.length ∧ n = .int .i64 q ∧ Hid (InbAt wq G (backS s i t L q) vq) ∧ Hid (Below G w4 wq)) (fun n _ => xs.length - (intOf n).toNat)
          case atStart => exact ⟨0, v, by omega, rfl, hI, hB⟩
          case round =>
            obtain ⟨q, vq, hq, rfl, hIq, hBq⟩ := hrel
            clear hI hB
            by_cases hlq : q < xs.length
            · have hlqI : (q : Int) < xs.length := by omega
              have hqN : q < (chunksL L).length := by rw [← HNL.out]; exact hlq
              have hpr := (HPCR.out.below (HB34.out.trans hBq.out) (Nat.le_refl G)) q hqN
              rw [chunksL_get] at hpr
              obtain ⟨g, a, c1, rfl, hgl, a0, a1, a2, a3, a4, hrd, hlc⟩ := hpr
              have hM := HM.out
              have hck : (ckL L q).length ≤ 400 := ckL_le
              have hwq : G < wr.heap.size := hIq.out.1.lt
              have hput := keepPut_any G (backS s i t L q) (backS_ok hok.out hM.2.2.2.1 hM.2.2.2.2 hLle q) vq i t q xs.length (by omega) (by omega) (by omega) (by omega) a (ckL L q) (ckL L q).length c1 rfl wr hIq.out (hrd.more (Nat.le_of_lt hwq)) (by omega) (fun ad2 had2 hn e => by
                obtain ⟨ad3, had3, hb3, -⟩ := hrd (by rw [cells_length]; exact hn)
                rw [had2] at had3
                injection had3 with had3
                subst had3
                omega)
              have hstep := back_step (s0 := s) hM.2.2.2.1 hM.2.2.2.2 hLle HRD.out.2.2.2.2.2 hqN
              rw [← HNL.out] at hstep
              unfold pcV at hput
              have HPUT := Lib.hid hput
              have HST := Lib.hid hstep
              have hvb : Hid (∀ p, vq.ownBlock = some p → G < p) := Lib.hid fun p hp => by have := (Own.lt hIq.out.2 p hp).1; omega
              clear hput hM hstep hck
              by_cases hlast : q + 1 = xs.length
              · have hl1 : decide (q + 1 = xs.length) = true := decide_eq_true hlast
                have hl2 : ((q : Int) == xs.length - 1) = true := by simpa using (by omega : (q : Int) = xs.length - 1)
                rw [hl1] at HST
                have HLAST := Lib.hid hlast
                clear hlast hl1
                go_wp2_with fail
                refine HPUT.out.mono ?_
                clear HPUT
                rintro e w6 ⟨V, v6, rfl, hV, hI6, hbut, hnx, hz1, hz2⟩
                obtain ⟨b1, b2, b3, b4, b5⟩ := HST.out
                rw [b2, b3]
                rw [b4] at hI6
                rw [b3, b5 HLAST.out] at hV
                obtain ⟨d0, d1, d2, d3, d4, d5⟩ := HRD.out
                simp only [zI, zL, if_true] at hV
                rw [d1, d2, d3, d4] at hV
                obtain ⟨vx, vy, rfl, hvx, hvy, hvxy⟩ := hV
                obtain ⟨Avx, cvx, rfl, -⟩ := is_shape hvx
                obtain ⟨Avy, cvy, rfl, -⟩ := bs_shape hvy
                have HI6 := Lib.hid hI6
                have HB6 := Lib.hid (hBq.out.trans (hbut.belowG hvb.out (Nat.le_refl _) (Nat.le_of_lt hwq)))
                clear hI6 hbut hnx hz1 hz2 hvxy b1 b2 b3 b4 b5 d0 d1 d2 d3 d4 d5 HST hvb a0 a1 a2 a3 a4
                have hs6 : G < w6.heap.size := HI6.out.1.lt
                have hb7 : Below w6.heap.size w6 (w6.alloc (.cells #[.int .i64 i, .int .i64 t, .slice Avx z.length cvx, .slice Avy l.length cvy] 59)) := (Below.refl _ w6).alloc (Nat.le_refl _) _
                have hK7 := Blk.new w6 59 #[.int .i64 i, .int .i64 t, .slice Avx z.length cvx, .slice Avy l.length cvy]
                have hs7 : (w6.alloc (.cells #[.int .i64 i, .int .i64 t, .slice Avx z.length cvx, .slice Avy l.length cvy] 59)).heap.size = w6.heap.size + 1 := by simp
                have HI7 := Lib.hid (HI6.out.below hb7 (Nat.le_refl _))
                have HB7 := Lib.hid (HB6.out.trans (hb7.mono (Nat.le_of_lt hs6)))
                have HX7 := Lib.hid (own_rd (Own.below hvx hb7 (Nat.le_refl _)))
                have HY7 := Lib.hid (own_rd (Own.below hvy hb7 (Nat.le_refl _)))
                clear hb7 hvx hvy HI6 HB6
                go_upto_region 17 with fail
                generalize w6.alloc (.cells #[.int .i64 i, .int .i64 t, .slice Avx z.length cvx, .slice Avy l.length cvy] 59) = W7 at hK7 hs7 HI7 HB7 HX7 HY7 ⊢
                have hS7 := hS3.out.below (HB34.out.trans HB7.out) hGw
                obtain ⟨s0, s1, s2, s3⟩ := hS7
                obtain ⟨r0, r1, r2, r3, _, _, _, _⟩ := blk4_cells hK7
                have hbT := hb03.out.trans ((HB34.out.trans HB7.out).mono (Nat.le_of_lt hGw))
                obtain ⟨hz, hl, -⟩ := HIN.out
                have hsm := Lib.hid (snapSame_any i t z l Avx Avy Av Ad z.length cvx l.length cvy z.length cv l.length cd W7.heap.size rfl rfl rfl rfl W7 (Nat.le_refl _) HX7.out HY7.out ((hz.rd.below hbT).more hbT.size) ((hl.rd.below hbT).more hbT.size) (by omega))
                unfold snapV at hsm
                clear hbT hK7 hz hl
                go_wp2_with fail
                refine hsm.out.mono ?_
                rintro e w8 ⟨rfl, hb8⟩
                have hs8 : G ≤ W7.heap.size := by omega
                have HI8 := Lib.hid (HI7.out.below hb8 (Nat.le_refl _))
                have HB8 := Lib.hid (HB7.out.trans (hb8.mono hs8))
                clear hb8 hsm HI7 HB7 HX7 HY7 s0 s1 s2 s3 r0 r1 r2 r3
                go_wp2
                go_roundw
                case rel => exact ⟨q + 1, v6, by omega, by go_num, HI8, HB8⟩
                case measure => simp [intOf]; omega
              · have hl1 : decide (q + 1 = xs.length) = false := decide_eq_false hlast
                have hl2 : ((q : Int) == xs.length - 1) = false := by simpa using (by omega : ¬ (q : Int) = xs.length - 1)
                rw [hl1] at HST
                clear hlast hl1
                go_wp2_with fail
                refine HPUT.out.mono ?_
                clear HPUT
                rintro e w6 ⟨V, v6, rfl, hV, hI6, hbut, hnx, hz1, hz2⟩
                obtain ⟨b1, b2, b3, b4, b5⟩ := HST.out
                have hV0 := hz2 b3
                subst hV0
                rw [b2, b3]
                rw [b4] at hI6
                have hb7 : Below w6.heap.size w6 (w6.alloc (.cells #[.int .i64 0, .int .i64 0, .slice none 0 0, .slice none 0 0] 59)) := (Below.refl _ w6).alloc (Nat.le_refl _) _
                have HI8 := Lib.hid (hI6.below hb7 (Nat.le_refl _))
                have HB8 := Lib.hid ((hBq.out.trans (hbut.belowG hvb.out (Nat.le_refl _) (Nat.le_of_lt hwq))).trans (hb7.mono (Nat.le_of_lt hI6.1.lt)))
                clear hV hI6 hbut hnx hz1 hz2 b1 b2 b3 b4 b5 HST hvb a0 a1 a2 a3 a4 hb7
                go_wp2
                go_roundw
                case rel => exact ⟨q + 1, v6, by omega, by go_num, HI8, HB8⟩
                case measure => simp [intOf]; omega
            · have hlqI : ¬ (q : Int) < xs.length := by omega
              have hN1I : (0 : Int) < xs.length := by omega
              have hwq : G < wr.heap.size := hIq.out.1.lt
              have hread := Lib.hid (read_any Ap L L.length cp rfl wr ((HPRD.out.below (HB34.out.trans hBq.out)).more (Nat.le_of_lt hwq)) hcp (by omega) hcp2)
              clear hlq
              go_wp2_with fail
              refine hread.out.mono ?_
              rintro e w6 ⟨V, rfl, hV, hb6⟩
              obtain ⟨d0, d1, d2, d3, d4, d5⟩ := HRD.out
              rw [d0]
              rw [d1, d2, d3, d4] at hV
              obtain ⟨vx, vy, rfl, hvx, hvy, hvxy⟩ := hV
              obtain ⟨Avx, cvx, rfl, -⟩ := is_shape hvx
              obtain ⟨Avy, cvy, rfl, -⟩ := bs_shape hvy
              have HI6 := Lib.hid (hIq.out.below hb6 (Nat.le_refl _))
              have HB6 := Lib.hid (hBq.out.trans (hb6.mono (Nat.le_of_lt hwq)))
              clear hvxy d0 d1 d2 d3 d4 d5 hread hb6
              have hs6 : G < w6.heap.size := HI6.out.1.lt
              have hb7 : Below w6.heap.size w6 (w6.alloc (.cells #[.int .i64 i, .int .i64 t, .slice Avx z.length cvx, .slice Avy l.length cvy] 59)) := (Below.refl _ w6).alloc (Nat.le_refl _) _
              have hK7 := Blk.new w6 59 #[.int .i64 i, .int .i64 t, .slice Avx z.length cvx, .slice Avy l.length cvy]
              have hs7 : (w6.alloc (.cells #[.int .i64 i, .int .i64 t, .slice Avx z.length cvx, .slice Avy l.length cvy] 59)).heap.size = w6.heap.size + 1 := by simp
              have HI7 := Lib.hid (HI6.out.below hb7 (Nat.le_refl _))
              have HB7 := Lib.hid (HB6.out.trans (hb7.mono (Nat.le_of_lt hs6)))
              have HX7 := Lib.hid (own_rd (Own.below hvx hb7 (Nat.le_refl _)))
              have HY7 := Lib.hid (own_rd (Own.below hvy hb7 (Nat.le_refl _)))
              clear hb7 hvx hvy HI6 HB6
              go_upto_region 20 with fail
              generalize w6.alloc (.cells #[.int .i64 i, .int .i64 t, .slice Avx z.length cvx, .slice Avy l.length cvy] 59) = W7 at hK7 hs7 HI7 HB7 HX7 HY7 ⊢
              have hS7 := hS3.out.below (HB34.out.trans HB7.out) hGw
              obtain ⟨s0, s1, s2, s3⟩ := hS7
              obtain ⟨r0, r1, r2, r3, _, _, _, _⟩ := blk4_cells hK7
              have hbT := hb03.out.trans ((HB34.out.trans HB7.out).mono (Nat.le_of_lt hGw))
              obtain ⟨hz, hl, -⟩ := HIN.out
              have hsm := Lib.hid (snapSame_any i t z l Avx Avy Av Ad z.length cvx l.length cvy z.length cv l.length cd W7.heap.size rfl rfl rfl rfl W7 (Nat.le_refl _) HX7.out HY7.out ((hz.rd.below hbT).more hbT.size) ((hl.rd.below hbT).more hbT.size) (by omega))
              unfold snapV at hsm
              clear hbT hK7 hz hl
              go_wp2_with fail
              refine hsm.out.mono ?_
              rintro e w8 ⟨rfl, hb8⟩
              have hs8 : G ≤ W7.heap.size := by omega
              have HI8 := Lib.hid (HI7.out.below hb8 (Nat.le_refl _))
              have HB8 := Lib.hid (HB7.out.trans (hb8.mono hs8))
              clear hb8 hsm HI7 HB7 HX7 HY7 s0 s1 s2 s3 r0 r1 r2 r3
              have hfin := Lib.hid (hb03.out.trans ((HB34.out.trans HB8.out).mono (Nat.le_of_lt hGw)))
              go_wp2
              go_ret
              exact ⟨rfl, hfin.out⟩
  · have hE : snapE i t z l = 1 := if_neg hm
    have hSn : snapS i t z l = [] := if_neg hm
    have hx : xs.length = 0 := by rw [HPC3.out.len, hSn]; rfl
    have hfin := Lib.hid (hb03.out.trans (HB34.out.mono (Nat.le_of_lt hGw)))
    rw [hE, hSn, hx]
    clear hE hSn hx hm
    go_wp2
    go_ret
    exact ⟨rfl, hfin.out⟩
end Go.Proofs.Ytelplpajpfkfiaa
