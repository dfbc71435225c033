/- ImageCodes: any instance, any bytes: the walk. Condition: the arguments can be read, within the form's reach. -/
import Derived.Test.YtaadbklimfngiaaImageUse
import Derived.Test.YtaadbklimfngiaaImageSmall
import Derived.Test.YtaadbklimfngiaaImageSame
import Derived.Test.YtaadbklimfngiaaImageRB
import Derived.Test.YtaadbklimfngiaaImageRR
import Derived.Test.YtaadbklimfngiaaOpen
set_option linter.unusedVariables false
namespace Go.Proofs.Ytaadbklimfngiaa
open Go.RowKit Oct

theorem InstRd.wfree {w : World} {B : Nat} {x : InstD} {A1 A2 A3 A4 : Option Addr} {c1 c2 c3 c4 : Nat} (h : InstRd w B x A1 c1 A2 c2 A3 c3 A4 c4) : x.act.length ≤ 4611686018427387904 ∧ x.nums.length ≤ 4611686018427387904 ∧ x.past.length ≤ 1000000000000000 ∧ x.tms.length ≤ 1000000000000000 :=
  ⟨by have := h.r1; omega, by have := h.r2; omega, by have := h.r3; omega, by have := h.r4; omega⟩
set_option maxHeartbeats 8000000 in
set_option maxRecDepth 100000 in
theorem imageCodes_walk (w : World) (x : InstD) (A1 : Option Addr) (c1 : Nat) (A2 : Option Addr) (c2 : Nat) (A3 : Option Addr) (c3 : Nat) (A4 : Option Addr) (c4 : Nat) (hx : x.wf) (hR : InstRd w w.heap.size x A1 c1 A2 c2 A3 c3 A4 c4)
    (A : Option Addr) (b : List UInt8) (c : Nat) (hb : In8 w A b c) :
    Calls Try.prog 19 #[instV x A1 c1 A2 c2 A3 c3 A4 c4, .slice A b.length c] w fun e w' => e = .returned (.bool true) ∧ Below w.heap.size w w' := by
  unfold instV
  have HIN := Lib.hid hb
  have hbl : b.length ≤ 140737488351232 := Nat.le_trans hb.le hb.cap
  have hbc : c ≤ 140737488351232 := hb.cap
  have hlc : b.length ≤ c := hb.le
  have HFIT := Lib.hid hR.fits
  have HWF := Lib.hid hx
  have hb0 := (Below.refl w.heap.size w).alloc (Nat.le_refl _) (.cells #[.slice A1 x.act.length c1, .slice A2 x.nums.length c2, .slice A3 x.past.length c3, .slice A4 x.tms.length c4, .int .i64 x.now] 87)
  have KX0 := Lib.hid (Blk.new w 87 #[.slice A1 x.act.length c1, .slice A2 x.nums.length c2, .slice A3 x.past.length c3, .slice A4 x.tms.length c4, .int .i64 x.now])
  have hs0 : w.heap.size ≤ (w.alloc (.cells #[.slice A1 x.act.length c1, .slice A2 x.nums.length c2, .slice A3 x.past.length c3, .slice A4 x.tms.length c4, .int .i64 x.now] 87)).heap.size := hb0.size
  have RX0 := Lib.hid (hR.below hb0 (Nat.le_refl _))
  have HB0 := Lib.hid hb0
  clear hb0 hR hb hx
  have hlt0 := KX0.out.lt
  go_enter Try.func19, Try.ntmps19
  go_upto_region 1 with fail
  generalize w.alloc (.cells #[.slice A1 x.act.length c1, .slice A2 x.nums.length c2, .slice A3 x.past.length c3, .slice A4 x.tms.length c4, .int .i64 x.now] 87) = w0 at KX0 RX0 HB0 hs0 hlt0 ⊢
  go_wp2_with fail
  refine (small18 w0).mono ?_
  rintro e w1 ⟨rfl, hb1⟩
  have KX1 := Lib.hid (KX0.out.below hb1 KX0.out.lt)
  have RX1 := Lib.hid (RX0.out.below hb1 (by omega))
  have HB1 := Lib.hid (HB0.out.trans (hb1.mono (by omega)))
  have hs1 : w0.heap.size ≤ w1.heap.size := hb1.size
  clear KX0 RX0 HB0 hb1
  obtain ⟨⟨x0, _⟩, ⟨x1, _⟩, ⟨x2, _⟩, ⟨x3, _⟩, ⟨x4, _⟩⟩ := blk5_fr KX1.out
  by_cases hbig : 8192 < (x.past.length : Int) ∨ 2097152 < (b.length : Int)
  · rcases Int.lt_or_le 8192 (x.past.length : Int) with h1 | h1
    · go_wp2
      go_ret
      exact ⟨rfl, HB1.out⟩
    · have h2 : 2097152 < (b.length : Int) := by omega
      go_wp2
      go_ret
      exact ⟨rfl, HB1.out⟩
  · have h1 : ¬ 8192 < (x.past.length : Int) := by omega
    have h2 : ¬ 2097152 < (b.length : Int) := by omega
    clear hbig
    go_wp2_with fail
    refine (copied_any x A1 c1 A2 c2 A3 c3 A4 c4 w1 (RX1.out.more (by omega))).mono ?_
    clear x0 x1 x2 x3 x4
    rintro e w2 ⟨V, rfl, hV, hb2⟩
    obtain ⟨esW, W1, Wp1, W2, Wp2, W3, Wp3, W4, Wp4, rfl, hOW⟩ := hV.opened
    unfold instV
    clear hV
    have KX2 := Lib.hid (KX1.out.below hb2 KX1.out.lt)
    have RX2 := Lib.hid (RX1.out.below hb2 (by omega))
    have HB2 := Lib.hid (HB1.out.trans (hb2.mono (by omega)))
    have hs2 : w1.heap.size ≤ w2.heap.size := hb2.size
    clear KX1 RX1 HB1 hb2
    have RW2 := Lib.hid (hOW.rd HFIT.out)
    clear hOW
    have hbx : Below w2.heap.size w2 (w2.alloc (.cells #[.slice W1 x.act.length Wp1, .slice W2 x.nums.length Wp2, .slice W3 x.past.length Wp3, .slice W4 x.tms.length Wp4, .int .i64 x.now] 87)) := (Below.refl _ w2).alloc (Nat.le_refl _) _
    have hkx := Blk.new w2 87 #[.slice W1 x.act.length Wp1, .slice W2 x.nums.length Wp2, .slice W3 x.past.length Wp3, .slice W4 x.tms.length Wp4, .int .i64 x.now]
    go_upto_region 5 with fail
    generalize w2.alloc (.cells #[.slice W1 x.act.length Wp1, .slice W2 x.nums.length Wp2, .slice W3 x.past.length Wp3, .slice W4 x.tms.length Wp4, .int .i64 x.now] 87) = w3 at hbx hkx ⊢
    have KW3 : Hid (Blk w3 w2.heap.size 87 #[.slice W1 x.act.length Wp1, .slice W2 x.nums.length Wp2, .slice W3 x.past.length Wp3, .slice W4 x.tms.length Wp4, .int .i64 x.now]) := Lib.hid hkx
    clear hkx
    have KX3 := Lib.hid (KX2.out.below hbx KX2.out.lt)
    have RX3 := Lib.hid (RX2.out.below hbx (by omega))
    have HB3 := Lib.hid (HB2.out.trans (hbx.mono (by omega)))
    have RW3 := Lib.hid (RW2.out.below hbx (by omega))
    have hs3 : w2.heap.size ≤ w3.heap.size := hbx.size
    clear KX2 RX2 HB2 RW2 hbx
    have hlt3 : w2.heap.size < w3.heap.size := KW3.out.lt
    go_wp2_with fail
    refine (lent_any A b c w3 ((HIN.out.rd.below HB3.out).more HB3.out.size) hbl).mono ?_
    rintro e w4 ⟨rfl, hl4, hb4⟩
    have KX4 := Lib.hid (KX3.out.below hb4 KX3.out.lt)
    have RX4 := Lib.hid (RX3.out.below hb4 (by omega))
    have HB4 := Lib.hid (HB3.out.trans (hb4.mono (by omega)))
    have RW4 := Lib.hid (RW3.out.below hb4 (by omega))
    have KW4 := Lib.hid (KW3.out.below hb4 KW3.out.lt)
    have hs4 : w3.heap.size ≤ w4.heap.size := hb4.size
    clear KX3 RX3 HB3 RW3 KW3 hb4
    have hlt4 : w3.heap.size < w4.heap.size := hl4.lt
    have LI4 := Lib.hid hl4
    clear hl4
    obtain ⟨⟨x0, _⟩, ⟨x1, _⟩, ⟨x2, _⟩, ⟨x3, _⟩, ⟨x4, _⟩⟩ := blk5_fr KX4.out
    go_wp2_with fail
    refine (imageBytes_any x A1 c1 A2 c2 A3 c3 A4 c4 w4 HWF.out (RX4.out.more (by omega))).mono ?_
    clear x0 x1 x2 x3 x4
    rintro e w5 ⟨va, rfl, hga, hb5⟩
    have KX5 := Lib.hid (KX4.out.below hb5 KX4.out.lt)
    have RX5 := Lib.hid (RX4.out.below hb5 (by omega))
    have HB5 := Lib.hid (HB4.out.trans (hb5.mono (by omega)))
    have RW5 := Lib.hid (RW4.out.below hb5 (by omega))
    have KW5 := Lib.hid (KW4.out.below hb5 KW4.out.lt)
    have LI5 := Lib.hid (LentAt.below LI4.out hb5 LI4.out.lt)
    have hs5 : w4.heap.size ≤ w5.heap.size := hb5.size
    clear KX4 RX4 HB4 RW4 KW4 LI4 hb5
    obtain ⟨Aa, ca, rfl, hla, hma, -⟩ := hga.shape
    have GAL : Hid (∀ q, (Value.slice Aa (iS x).length ca).ownBlock = some q → w4.heap.size ≤ q ∧ q < w5.heap.size) := Lib.hid fun q e => ⟨hga.row.base q e, hga.row.lt q e⟩
    have GA5 := Lib.hid hga
    clear hga
    obtain ⟨EX, hEX⟩ : ∃ u, u = iE x := ⟨_, rfl⟩
    rw [← hEX]
    have HEX := Lib.hid hEX
    clear hEX
    go_wp2_with fail
    refine (imageRead_any (some ⟨w3.heap.size, 0, none⟩) b _ (b.length + 1) rfl w5 (LI5.out.rd.more LI5.out.lt) (by omega) ⟨hbl, by omega⟩).mono ?_
    rintro e w6 ⟨V, rfl, hV, hb6⟩
    obtain ⟨esY, Y1, Yp1, Y2, Yp2, Y3, Yp3, Y4, Yp4, rfl, hOY⟩ := hV.opened
    unfold instV
    clear hV
    have KX6 := Lib.hid (KX5.out.below hb6 KX5.out.lt)
    have RX6 := Lib.hid (RX5.out.below hb6 (by omega))
    have HB6 := Lib.hid (HB5.out.trans (hb6.mono (by omega)))
    have RW6 := Lib.hid (RW5.out.below hb6 (by omega))
    have KW6 := Lib.hid (KW5.out.below hb6 KW5.out.lt)
    have LI6 := Lib.hid (LentAt.below LI5.out hb6 LI5.out.lt)
    have GA6 := Lib.hid (GA5.out.below hb6 (Nat.le_refl _))
    have hs6 : w5.heap.size ≤ w6.heap.size := hb6.size
    clear KX5 RX5 HB5 RW5 KW5 LI5 GA5 hb6
    have OY6 := Lib.hid hOY
    clear hOY
    obtain ⟨ER, hER⟩ : ∃ u, u = rE b := ⟨_, rfl⟩
    rw [← hER]
    have HER := Lib.hid hER
    clear hER
    have hbx : Below w6.heap.size w6 (w6.alloc (.cells #[.slice Y1 (rX b).act.length Yp1, .slice Y2 (rX b).nums.length Yp2, .slice Y3 (rX b).past.length Yp3, .slice Y4 (rX b).tms.length Yp4, .int .i64 (rX b).now] 87)) := (Below.refl _ w6).alloc (Nat.le_refl _) _
    have hkx := Blk.new w6 87 #[.slice Y1 (rX b).act.length Yp1, .slice Y2 (rX b).nums.length Yp2, .slice Y3 (rX b).past.length Yp3, .slice Y4 (rX b).tms.length Yp4, .int .i64 (rX b).now]
    go_upto_region 8 with fail
    generalize w6.alloc (.cells #[.slice Y1 (rX b).act.length Yp1, .slice Y2 (rX b).nums.length Yp2, .slice Y3 (rX b).past.length Yp3, .slice Y4 (rX b).tms.length Yp4, .int .i64 (rX b).now] 87) = w7 at hbx hkx ⊢
    have KY7 : Hid (Blk w7 w6.heap.size 87 #[.slice Y1 (rX b).act.length Yp1, .slice Y2 (rX b).nums.length Yp2, .slice Y3 (rX b).past.length Yp3, .slice Y4 (rX b).tms.length Yp4, .int .i64 (rX b).now]) := Lib.hid hkx
    clear hkx
    have KX7 := Lib.hid (KX6.out.below hbx KX6.out.lt)
    have RX7 := Lib.hid (RX6.out.below hbx (by omega))
    have HB7 := Lib.hid (HB6.out.trans (hbx.mono (by omega)))
    have RW7 := Lib.hid (RW6.out.below hbx (by omega))
    have KW7 := Lib.hid (KW6.out.below hbx KW6.out.lt)
    have LI7 := Lib.hid (LentAt.below LI6.out hbx LI6.out.lt)
    have GA7 := Lib.hid (GA6.out.below hbx (Nat.le_refl _))
    have OY7 := Lib.hid (OY6.out.below hbx)
    have hs7 : w6.heap.size ≤ w7.heap.size := hbx.size
    clear KX6 RX6 HB6 RW6 KW6 LI6 GA6 OY6 hbx
    have hlt7 : w6.heap.size < w7.heap.size := KY7.out.lt
    obtain ⟨⟨v0, _⟩, ⟨v1, _⟩, ⟨v2, _⟩, ⟨v3, _⟩, ⟨v4, _⟩⟩ := blk5_fr KW7.out
    go_wp2_with fail
    refine (rimageBytes_any x W1 Wp1 W2 Wp2 W3 Wp3 W4 Wp4 w7 HWF.out (RW7.out.more (by omega))).mono ?_
    clear v0 v1 v2 v3 v4
    rintro e w8 ⟨vw, rfl, hgw, hb8⟩
    rw [← HEX.out]
    have KX8 := Lib.hid (KX7.out.below hb8 KX7.out.lt)
    have RX8 := Lib.hid (RX7.out.below hb8 (by omega))
    have HB8 := Lib.hid (HB7.out.trans (hb8.mono (by omega)))
    have RW8 := Lib.hid (RW7.out.below hb8 (by omega))
    have KW8 := Lib.hid (KW7.out.below hb8 KW7.out.lt)
    have LI8 := Lib.hid (LentAt.below LI7.out hb8 LI7.out.lt)
    have GA8 := Lib.hid (GA7.out.below hb8 (Nat.le_refl _))
    have OY8 := Lib.hid (OY7.out.below hb8)
    have KY8 := Lib.hid (KY7.out.below hb8 KY7.out.lt)
    have hs8 : w7.heap.size ≤ w8.heap.size := hb8.size
    clear KX7 RX7 HB7 RW7 KW7 LI7 GA7 OY7 KY7 hb8
    obtain ⟨Aw, cw, rfl, hlw, hmw, -⟩ := hgw.shape
    have GW8 := Lib.hid hgw
    clear hgw
    go_wp2_with fail
    refine (rimageRead_any A b _ c rfl w8 ((HIN.out.rd.below HB8.out).more HB8.out.size) hlc ⟨hbl, by omega⟩).mono ?_
    rintro e w9 ⟨V, rfl, hV, hb9⟩
    rw [← HER.out]
    obtain ⟨esZ, Z1, Zp1, Z2, Zp2, Z3, Zp3, Z4, Zp4, rfl, hOZ⟩ := hV.opened
    unfold instV
    clear hV
    have KX9 := Lib.hid (KX8.out.below hb9 KX8.out.lt)
    have RX9 := Lib.hid (RX8.out.below hb9 (by omega))
    have HB9 := Lib.hid (HB8.out.trans (hb9.mono (by omega)))
    have RW9 := Lib.hid (RW8.out.below hb9 (by omega))
    have KW9 := Lib.hid (KW8.out.below hb9 KW8.out.lt)
    have LI9 := Lib.hid (LentAt.below LI8.out hb9 LI8.out.lt)
    have GA9 := Lib.hid (GA8.out.below hb9 (Nat.le_refl _))
    have OY9 := Lib.hid (OY8.out.below hb9)
    have KY9 := Lib.hid (KY8.out.below hb9 KY8.out.lt)
    have GW9 := Lib.hid (GW8.out.below hb9 (Nat.le_refl _))
    have hs9 : w8.heap.size ≤ w9.heap.size := hb9.size
    clear KX8 RX8 HB8 RW8 KW8 LI8 GA8 OY8 KY8 GW8 hb9
    have OZ9 := Lib.hid hOZ
    clear hOZ
    have hbx : Below w9.heap.size w9 (w9.alloc (.cells #[.slice Z1 (rX b).act.length Zp1, .slice Z2 (rX b).nums.length Zp2, .slice Z3 (rX b).past.length Zp3, .slice Z4 (rX b).tms.length Zp4, .int .i64 (rX b).now] 87)) := (Below.refl _ w9).alloc (Nat.le_refl _) _
    have hkx := Blk.new w9 87 #[.slice Z1 (rX b).act.length Zp1, .slice Z2 (rX b).nums.length Zp2, .slice Z3 (rX b).past.length Zp3, .slice Z4 (rX b).tms.length Zp4, .int .i64 (rX b).now]
    go_upto_region 10 with fail
    generalize w9.alloc (.cells #[.slice Z1 (rX b).act.length Zp1, .slice Z2 (rX b).nums.length Zp2, .slice Z3 (rX b).past.length Zp3, .slice Z4 (rX b).tms.length Zp4, .int .i64 (rX b).now] 87) = w10 at hbx hkx ⊢
    have KZ10 : Hid (Blk w10 w9.heap.size 87 #[.slice Z1 (rX b).act.length Zp1, .slice Z2 (rX b).nums.length Zp2, .slice Z3 (rX b).past.length Zp3, .slice Z4 (rX b).tms.length Zp4, .int .i64 (rX b).now]) := Lib.hid hkx
    clear hkx
    have KX10 := Lib.hid (KX9.out.below hbx KX9.out.lt)
    have RX10 := Lib.hid (RX9.out.below hbx (by omega))
    have HB10 := Lib.hid (HB9.out.trans (hbx.mono (by omega)))
    have RW10 := Lib.hid (RW9.out.below hbx (by omega))
    have KW10 := Lib.hid (KW9.out.below hbx KW9.out.lt)
    have LI10 := Lib.hid (LentAt.below LI9.out hbx LI9.out.lt)
    have GA10 := Lib.hid (GA9.out.below hbx (Nat.le_refl _))
    have OY10 := Lib.hid (OY9.out.below hbx)
    have KY10 := Lib.hid (KY9.out.below hbx KY9.out.lt)
    have GW10 := Lib.hid (GW9.out.below hbx (Nat.le_refl _))
    have OZ10 := Lib.hid (OZ9.out.below hbx)
    have hs10 : w9.heap.size ≤ w10.heap.size := hbx.size
    clear KX9 RX9 HB9 RW9 KW9 LI9 GA9 OY9 KY9 GW9 OZ9 hbx
    have hlt10 : w9.heap.size < w10.heap.size := KZ10.out.lt
    go_wp2_with fail
    refine (kept_any w3.heap.size A b c w.heap.size w10 LI10.out (HIN.out.rd.below HB10.out) hbl).mono ?_
    rintro e w10' ⟨rfl, rfl⟩
    obtain ⟨⟨x0, _⟩, ⟨x1, _⟩, ⟨x2, _⟩, ⟨x3, _⟩, ⟨x4, _⟩⟩ := blk5_fr KX10.out
    obtain ⟨⟨v0, _⟩, ⟨v1, _⟩, ⟨v2, _⟩, ⟨v3, _⟩, ⟨v4, _⟩⟩ := blk5_fr KW10.out
    go_wp2_with fail
    refine (instSame_any x A1 A2 A3 A4 W1 W2 W3 W4 c1 c2 c3 c4 Wp1 Wp2 Wp3 Wp4 w10.heap.size w10 (RX10.out.more (by omega)) (RW10.out.more (by omega)) (Nat.le_refl _)).mono ?_
    clear x0 x1 x2 x3 x4 v0 v1 v2 v3 v4
    rintro e w11 ⟨rfl, hb11⟩
    have KX11 := Lib.hid (KX10.out.below hb11 KX10.out.lt)
    have RX11 := Lib.hid (RX10.out.below hb11 (by omega))
    have HB11 := Lib.hid (HB10.out.trans (hb11.mono (by omega)))
    have RW11 := Lib.hid (RW10.out.below hb11 (by omega))
    have KW11 := Lib.hid (KW10.out.below hb11 KW10.out.lt)
    have LI11 := Lib.hid (LentAt.below LI10.out hb11 LI10.out.lt)
    have GA11 := Lib.hid (GA10.out.below hb11 (Nat.le_refl _))
    have OY11 := Lib.hid (OY10.out.below hb11)
    have KY11 := Lib.hid (KY10.out.below hb11 KY10.out.lt)
    have GW11 := Lib.hid (GW10.out.below hb11 (Nat.le_refl _))
    have OZ11 := Lib.hid (OZ10.out.below hb11)
    have KZ11 := Lib.hid (KZ10.out.below hb11 KZ10.out.lt)
    have hs11 : w10.heap.size ≤ w11.heap.size := hb11.size
    clear KX10 RX10 HB10 RW10 KW10 LI10 GA10 OY10 KY10 GW10 OZ10 KZ10 hb11
    obtain ⟨⟨y0, _⟩, ⟨y1, _⟩, ⟨y2, _⟩, ⟨y3, _⟩, ⟨y4, _⟩⟩ := blk5_fr KY11.out
    obtain ⟨⟨z0, _⟩, ⟨z1, _⟩, ⟨z2, _⟩, ⟨z3, _⟩, ⟨z4, _⟩⟩ := blk5_fr KZ11.out
    go_wp2_with fail
    refine (instSame_any (rX b) Y1 Y2 Y3 Y4 Z1 Z2 Z3 Z4 Yp1 Yp2 Yp3 Yp4 Zp1 Zp2 Zp3 Zp4 w11.heap.size w11 (OY11.out.rd (rX_short b).fits) (OZ11.out.rd (rX_short b).fits) (Nat.le_refl _)).mono ?_
    clear y0 y1 y2 y3 y4 z0 z1 z2 z3 z4
    rintro e w12 ⟨rfl, hb12⟩
    have KX12 := Lib.hid (KX11.out.below hb12 KX11.out.lt)
    have RX12 := Lib.hid (RX11.out.below hb12 (by omega))
    have HB12 := Lib.hid (HB11.out.trans (hb12.mono (by omega)))
    have RW12 := Lib.hid (RW11.out.below hb12 (by omega))
    have KW12 := Lib.hid (KW11.out.below hb12 KW11.out.lt)
    have LI12 := Lib.hid (LentAt.below LI11.out hb12 LI11.out.lt)
    have GA12 := Lib.hid (GA11.out.below hb12 (Nat.le_refl _))
    have OY12 := Lib.hid (OY11.out.below hb12)
    have KY12 := Lib.hid (KY11.out.below hb12 KY11.out.lt)
    have GW12 := Lib.hid (GW11.out.below hb12 (Nat.le_refl _))
    have OZ12 := Lib.hid (OZ11.out.below hb12)
    have KZ12 := Lib.hid (KZ11.out.below hb12 KZ11.out.lt)
    have hs12 : w11.heap.size ≤ w12.heap.size := hb12.size
    clear KX11 RX11 HB11 RW11 KW11 LI11 GA11 OY11 KY11 GW11 OZ11 KZ11 hb12
    have k1 : _ := str_of ca (w := w12) (B := w12.heap.size) (A := Aa) (l := iS x) (by obtain ⟨Aq, cq, hv, _, _, hr⟩ := GA12.out.shape; injection hv with e1; subst e1; exact hr)
    have k2 : _ := str_of cw (w := w12) (B := w12.heap.size) (A := Aw) (l := iS x) (by obtain ⟨Aq, cq, hv, _, _, hr⟩ := GW12.out.shape; injection hv with e1; subst e1; exact hr)
    go_upto_region 13 with fail
    clear k1 k2
    have HAP : Hid (∀ g, (Value.slice Aa (iS x).length ca).ownBlock = some g → (Value.slice (some ⟨w3.heap.size, 0, none⟩) b.length (b.length + 1)).ownBlock ≠ some g) := Lib.hid fun g h1 h2 => by
      have h3 := (GAL.out g h1).1
      have h4 : w3.heap.size = g := by simpa [Value.ownBlock] using h2
      have h5 := LI12.out.lt
      omega
    have HOA : Hid (RowOk w12 w3.heap.size (.slice Aa (iS x).length ca)) := Lib.hid (GA12.out.row.mono (by omega))
    have HOI : Hid (RowOk w12 w3.heap.size (.slice (some ⟨w3.heap.size, 0, none⟩) b.length (b.length + 1))) := Lib.hid (RowOk.of_lent LI12.out (Nat.le_refl _) hbl)
    have h312 : w3.heap.size ≤ w12.heap.size := by omega
    go_wp2_with fail
    refine (owned_two_far _ _ w3.heap.size w12 HOA.out HOI.out HAP.out h312).mono ?_
    rintro e w13 ⟨rfl, hb13, hfar⟩
    have hkeep : ∀ q, w5.heap.size ≤ q → q < w12.heap.size → w13.heap[q]? = w12.heap[q]? := fun q h1 h2 => hfar q h2 (fun e => by have := (GAL.out q e).2; omega) (fun e => by
      have h4 : w3.heap.size = q := by simpa [Value.ownBlock] using e
      omega)
    have OY13 := Lib.hid (OY12.out.keep fun q h1 h2 => hkeep q h1 h2)
    have KY13 : Hid (Blk w13 w6.heap.size 87 _) := Lib.hid ((hkeep w6.heap.size (by omega) KY12.out.lt).trans KY12.out)
    have KX13 := Lib.hid (KX12.out.below hb13 (by omega))
    have KW13 := Lib.hid (KW12.out.below hb13 (by omega))
    have RX13 := Lib.hid (RX12.out.below hb13 (by omega))
    have RW13 := Lib.hid (RW12.out.below hb13 (by omega))
    have HB13 := Lib.hid (HB12.out.trans (hb13.mono (by omega)))
    have hs13 : w12.heap.size ≤ w13.heap.size := hb13.size
    clear KX12 RX12 HB12 RW12 KW12 LI12 GA12 OY12 KY12 GW12 OZ12 KZ12 hb13 hfar hkeep HAP HOA HOI
    obtain ⟨⟨y0, _⟩, ⟨y1, _⟩, ⟨y2, _⟩, ⟨y3, _⟩, ⟨y4, _⟩⟩ := blk5_fr KY13.out
    have hpl : esY.length = (rX b).past.length := by rw [← OY13.out.pes, List.length_map]
    have hOV := OY13.out.ov
    have hmz : ∀ e ∈ esY, e.1.z.length ≤ 4611686018427387904 := fun e he => by
      have h1 : e.1 ∈ (rX b).past := by rw [← OY13.out.pes]; exact List.mem_map.2 ⟨e, he, rfl⟩
      have h2 := (rX_short b).az _ h1
      omega
    have hsy := rX_short b
    have hover := over15_at (rX b).act.length (rX b).nums.length (rX b).tms.length esY Y1 Yp1 Y2 Yp2 Y3 Yp3 Y4 Yp4 (rX b).now w5.heap.size w13 hOV (by omega) (by have := hsy.a1; omega) (by have := hsy.a2; omega) (by rw [hpl]; have := hsy.a3; omega) (by have := hsy.a4; omega) hmz
    rw [hpl] at hover
    have HOV := Lib.hid hover
    clear hpl hOV hmz hover hsy
    go_wp2_with fail
    refine HOV.out.mono ?_
    clear y0 y1 y2 y3 y4
    rintro e w14 ⟨rfl, hb14⟩
    have KX14 := Lib.hid (KX13.out.below hb14 (by omega))
    have KW14 := Lib.hid (KW13.out.below hb14 (by omega))
    have RX14 := Lib.hid (RX13.out.below hb14 (by omega))
    have RW14 := Lib.hid (RW13.out.below hb14 (by omega))
    have HB14 := Lib.hid (HB13.out.trans (hb14.mono (by omega)))
    have hs14 := hb14.size
    clear KX13 KW13 KY13 RX13 RW13 HB13 OY13 HOV hb14
    obtain ⟨⟨x0, _⟩, ⟨x1, _⟩, ⟨x2, _⟩, ⟨x3, _⟩, ⟨x4, _⟩⟩ := blk5_fr KX14.out
    obtain ⟨⟨v0, _⟩, ⟨v1, _⟩, ⟨v2, _⟩, ⟨v3, _⟩, ⟨v4, _⟩⟩ := blk5_fr KW14.out
    go_wp2_with fail
    refine (instSame_any x A1 A2 A3 A4 W1 W2 W3 W4 c1 c2 c3 c4 Wp1 Wp2 Wp3 Wp4 w14.heap.size w14 (RX14.out.more (by omega)) (RW14.out.more (by omega)) (Nat.le_refl _)).mono ?_
    rintro e w15 ⟨rfl, hb15⟩
    have HB15 := Lib.hid (HB14.out.trans (hb15.mono (by omega)))
    clear hb15 HB14
    go_wp2
    go_ret
    exact ⟨rfl, HB15.out⟩
end Go.Proofs.Ytaadbklimfngiaa
