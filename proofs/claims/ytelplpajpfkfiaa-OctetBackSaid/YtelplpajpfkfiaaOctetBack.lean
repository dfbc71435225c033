/- What was written is taken, THE STAGE's THEOREM: the walk of the statement. No condition. -/
import Derived.Test.YtelplpajpfkfiaaOctPlain2
import Derived.Test.YtelplpajpfkfiaaApp
set_option linter.unusedVariables false
namespace Go.Proofs.Ytelplpajpfkfiaa
open Go.RowKit Oct

theorem encI_len (n : Int) (h : n ≤ 9223372036854775807) : (encI n).length ≤ 10 := by
  unfold encI
  split
  · simp
  · exact enc_len _ (by omega)
theorem encT_len (l : List UInt8) : (encT l).length ≤ 65545 := by
  unfold encT
  split
  · simp
  · have := enc_len l.length (by omega)
    simp
    omega
theorem encZ_len (z : List Int) (hz : ∀ n ∈ z, -9223372036854775808 ≤ n ∧ n ≤ 9223372036854775807) : (encZ z).length ≤ 40970 := by
  unfold encZ
  split
  · simp
  · have h1 := enc_len z.length (by omega)
    have h2 := encs_len z hz
    simp
    omega
theorem factU (n : Int) (h : n ≤ 9223372036854775807) (l : List UInt8) : (n < 0 ∧ errI n = 1) ∨ (0 ≤ n ∧ errI n = 0 ∧ ((takeU maxI (encI n ++ l)).1 : Int) = n ∧ ((takeU maxI (encI n ++ l)).2.1 : Int) = ((encI n).length : Int) ∧ (takeU maxI (encI n ++ l)).2.2 = 0) := by
  by_cases h0 : n < 0
  · exact .inl ⟨h0, if_pos h0⟩
  · refine .inr ⟨by omega, if_neg h0, ?_⟩
    have he : encI n = enc n.toNat := if_neg h0
    rw [he, takeU_enc (by unfold maxI; omega)]
    exact ⟨by omega, rfl, rfl⟩
theorem factI (n : Int) (h : -9223372036854775808 ≤ n ∧ n ≤ 9223372036854775807) (l : List UInt8) : unfold1 (takeU maxU (enc (fold1 n) ++ l)).1 = n ∧ ((takeU maxU (enc (fold1 n) ++ l)).2.1 : Int) = ((enc (fold1 n)).length : Int) ∧ (takeU maxU (enc (fold1 n) ++ l)).2.2 = 0 := by
  have h2 := fold1_lt n h
  rw [takeU_enc (by unfold maxU; omega)]
  exact ⟨unfold_fold n, rfl, rfl⟩
theorem factT (s : ByteArray) (l : List UInt8) : (65535 < s.size ∧ errT s.data.toList = 2) ∨ (s.size ≤ 65535 ∧ errT s.data.toList = 0 ∧ str (takeT (encT s.data.toList ++ l)).1 = s ∧ ((takeT (encT s.data.toList ++ l)).2.1 : Int) = ((encT s.data.toList).length : Int) ∧ (takeT (encT s.data.toList ++ l)).2.2 = 0) := by
  have hs : s.data.toList.length = s.size := by simp
  by_cases h0 : 65535 < s.size
  · exact .inl ⟨h0, if_pos (by omega)⟩
  · refine .inr ⟨by omega, if_neg (by omega), ?_⟩
    have he : encT s.data.toList = enc s.data.toList.length ++ s.data.toList := if_neg (by omega)
    rw [he, takeT_enc _ _ (by omega)]
    exact ⟨rfl, rfl, rfl⟩
theorem factZ (z : List Int) (hz : ∀ n ∈ z, -9223372036854775808 ≤ n ∧ n ≤ 9223372036854775807) (l : List UInt8) : (4096 < z.length ∧ errZ z = 2) ∨ (z.length ≤ 4096 ∧ errZ z = 0 ∧ (takeZ (encZ z ++ l)).1 = z ∧ ((takeZ (encZ z ++ l)).2.1 : Int) = ((encZ z).length : Int) ∧ (takeZ (encZ z ++ l)).2.2 = 0) := by
  by_cases h0 : 4096 < z.length
  · exact .inl ⟨h0, if_pos h0⟩
  · refine .inr ⟨by omega, if_neg h0, ?_⟩
    have he : encZ z = enc z.length ++ encs z := if_neg h0
    rw [he, takeZ_enc z hz _ (by omega)]
    exact ⟨rfl, rfl, rfl⟩
theorem takeZ_len (l : List UInt8) : (takeZ l).1.length ≤ 4096 := by
  unfold takeZ
  split
  · have := tz_len l (lenOf 4096 l).1 (cnt maxI l).2.1 []
    have := lenOf_le 4096 l
    simp at *
    omega
  · simp

set_option maxHeartbeats 8000000 in
set_option maxRecDepth 100000 in
theorem back_core (w : World) (n : Int) (hn : -9223372036854775808 ≤ n ∧ n ≤ 9223372036854775807) (s : ByteArray) (Az : Option Addr) (z : List Int) (cz : Nat) (hz : InInts w Az z cz) (A : Option Addr) (l : List UInt8) (c : Nat) (hin : In8 w A l c)
    (g1 : l.length ≤ 1048576) (g2 : s.size ≤ 1048576) (g3 : z.length ≤ 65536) :
    Calls Try.prog 9 #[.int .i64 n, .string s, .slice Az z.length cz, .slice A l.length c] w fun e w' => e = .returned (.bool true) ∧ Below w.heap.size w w' := by
  have hll := hin.le
  have hcap := hin.cap
  have HN := Lib.hid hn
  have HZ := Lib.hid hz.wf
  have FI := Lib.hid (factI n hn l)
  have HP := Lib.hid (show ((enc (fold1 n)).length : Int) ≠ 0 by have := enc_pos (fold1 n); omega)
  have HQ := Lib.hid (takeZ_len (encZ z ++ l))
  have hl1 := encI_len n hn.2
  have hl2 := enc_len (fold1 n) (by have := fold1_lt n hn; omega)
  have hl3 := encT_len s.data.toList
  have hl4 := encZ_len z hz.wf
  clear hn
  go_enter Try.func9, Try.ntmps9
  go_wp2_with fail
  refine (uint_tot n HN.out.2 _).mono ?_
  rintro e w1 ⟨va, rfl, hova, hbw1⟩
  obtain ⟨A1, c1, rfl, hc1, _, hsA1⟩ := bs_shape hova
  have hszw1 := hbw1.size
  go_wp2_with (first | (at_builtin; refine wpList_app0 rfl (.tmp 48) (.tmp 49) 22 rfl 5 (.int .u8 0) 1 Try.underlying22 info_u8 rfl rfl A1 (encI n).length c1 _ rfl (cells_length _).symm hsA1 (bytes_one _) (by omega) (by omega) ?_; intro vw2a ww2a hovw2a hxw2a) | (at_builtin; refine wpList_app1 (W := w1) rfl (.tmp 50) (.tmp 51) 22 rfl 5 (.int .u8 0) 1 Try.underlying22 info_u8 rfl vw2a (cells (encI n)) rfl w1.heap.size hxw2a (Nat.le_refl _) hovw2a w.heap.size A l.length c _ rfl (cells_length _).symm (hin.rd.below (hbw1.trans (hxw2a.mono hszw1))) (bytes_one _) (by rw [cells_length]; omega) (by rw [cells_length]; omega) ?_; intro vw2 w2 hovw2 hxw2))
  have hbw2 : Below w.heap.size w w2 := hbw1.trans (hxw2.mono hszw1)
  have hszw2 := hbw2.size
  rw [← cells_append] at hovw2
  obtain ⟨Bw2, cw2, rfl, hcw2, hmw2, hrw2⟩ := bs_shape hovw2
  rw [List.length_append] at hcw2
  go_wp2_with fail
  refine (takeUint_any Bw2 (encI n ++ l) cw2 _ hrw2 (by rw [List.length_append]; omega)).mono ?_
  rintro e w3 ⟨rfl, hb23⟩
  have hbw3 : Below w.heap.size w w3 := hbw2.trans (hb23.mono hszw2)
  clear hova hbw1 hsA1 hszw1 hxw2 hxw2a hovw2a hovw2 hrw2 hb23 hbw2
  rcases factU n HN.out.2 l with ⟨h1, h2⟩ | ⟨h1, h2, h3, h4, h5⟩
  · rw [h2]
    go_wp2_with fail
    refine (int_any n HN.out _).mono ?_
    rintro e w4 ⟨vb, rfl, hovb, hbw4⟩
    replace hbw4 := hbw3.trans (hbw4.mono hbw3.size)
    obtain ⟨A4, c4, rfl, hc4, _, hsA4⟩ := bs_shape hovb
    have hszw4 := hbw4.size
    go_wp2_with (first | (at_builtin; refine wpList_app0 rfl (.tmp 84) (.tmp 85) 22 rfl 5 (.int .u8 0) 1 Try.underlying22 info_u8 rfl rfl A4 (enc (fold1 n)).length c4 _ rfl (cells_length _).symm hsA4 (bytes_one _) (by omega) (by omega) ?_; intro vw5a ww5a hovw5a hxw5a) | (at_builtin; refine wpList_app1 (W := w4) rfl (.tmp 86) (.tmp 87) 22 rfl 5 (.int .u8 0) 1 Try.underlying22 info_u8 rfl vw5a (cells (enc (fold1 n))) rfl w4.heap.size hxw5a (Nat.le_refl _) hovw5a w.heap.size A l.length c _ rfl (cells_length _).symm (hin.rd.below (hbw4.trans (hxw5a.mono hszw4))) (bytes_one _) (by rw [cells_length]; omega) (by rw [cells_length]; omega) ?_; intro vw5 w5 hovw5 hxw5))
    have hbw5 : Below w.heap.size w w5 := hbw4.trans (hxw5.mono hszw4)
    have hszw5 := hbw5.size
    rw [← cells_append] at hovw5
    obtain ⟨Bw5, cw5, rfl, hcw5, hmw5, hrw5⟩ := bs_shape hovw5
    rw [List.length_append] at hcw5
    go_wp2_with fail
    refine (takeInt_any Bw5 (enc (fold1 n) ++ l) cw5 _ hrw5 (by rw [List.length_append]; omega)).mono ?_
    rintro e w6 ⟨rfl, hb56⟩
    have hbw6 : Below w.heap.size w w6 := hbw5.trans (hb56.mono hszw5)
    clear hovb hbw3 hbw4 hsA4 hszw4 hxw5 hxw5a hovw5a hovw5 hrw5 hb56 hbw5
    rw [(FI.out).1, (FI.out).2.1, (FI.out).2.2]
    have hp4 := HP.out
    go_wp2_with fail
    refine (text_tot s (by omega) _).mono ?_
    rintro e w7 ⟨vc, rfl, hovc, hbw7⟩
    replace hbw7 := hbw6.trans (hbw7.mono hbw6.size)
    obtain ⟨A7, c7, rfl, hc7, _, hsA7⟩ := bs_shape hovc
    have hszw7 := hbw7.size
    go_wp2_with (first | (at_builtin; refine wpList_app0 rfl (.tmp 116) (.tmp 117) 22 rfl 5 (.int .u8 0) 1 Try.underlying22 info_u8 rfl rfl A7 (encT s.data.toList).length c7 _ rfl (cells_length _).symm hsA7 (bytes_one _) (by omega) (by omega) ?_; intro vw8a ww8a hovw8a hxw8a) | (at_builtin; refine wpList_app1 (W := w7) rfl (.tmp 118) (.tmp 119) 22 rfl 5 (.int .u8 0) 1 Try.underlying22 info_u8 rfl vw8a (cells (encT s.data.toList)) rfl w7.heap.size hxw8a (Nat.le_refl _) hovw8a w.heap.size A l.length c _ rfl (cells_length _).symm (hin.rd.below (hbw7.trans (hxw8a.mono hszw7))) (bytes_one _) (by rw [cells_length]; omega) (by rw [cells_length]; omega) ?_; intro vw8 w8 hovw8 hxw8))
    have hbw8 : Below w.heap.size w w8 := hbw7.trans (hxw8.mono hszw7)
    have hszw8 := hbw8.size
    rw [← cells_append] at hovw8
    obtain ⟨Bw8, cw8, rfl, hcw8, hmw8, hrw8⟩ := bs_shape hovw8
    rw [List.length_append] at hcw8
    go_wp2_with fail
    refine (takeText_any Bw8 (encT s.data.toList ++ l) cw8 _ hrw8 (by rw [List.length_append]; omega) (by rw [List.length_append]; omega)).mono ?_
    rintro e w9 ⟨rfl, hb89⟩
    have hbw9 : Below w.heap.size w w9 := hbw8.trans (hb89.mono hszw8)
    clear hovc hbw6 hbw7 hsA7 hszw7 hxw8 hxw8a hovw8a hovw8 hrw8 hb89 hbw8
    rcases factT s l with ⟨k1, k2⟩ | ⟨k1, k2, k3, k4, k5⟩
    · rw [k2]
      go_wp2_with fail
      refine (ints_tot Az z _ cz rfl _ ((hz.rd.below hbw9).more hbw9.size) HZ.out (by omega)).mono ?_
      rintro e w10 ⟨vd, rfl, hovd, hbw10⟩
      replace hbw10 := hbw9.trans (hbw10.mono hbw9.size)
      obtain ⟨A10, c10, rfl, hc10, _, hsA10⟩ := bs_shape hovd
      have hszw10 := hbw10.size
      go_wp2_with (first | (at_builtin; refine wpList_app0 rfl (.tmp 156) (.tmp 157) 22 rfl 5 (.int .u8 0) 1 Try.underlying22 info_u8 rfl rfl A10 (encZ z).length c10 _ rfl (cells_length _).symm hsA10 (bytes_one _) (by omega) (by omega) ?_; intro vw11a ww11a hovw11a hxw11a) | (at_builtin; refine wpList_app1 (W := w10) rfl (.tmp 158) (.tmp 159) 22 rfl 5 (.int .u8 0) 1 Try.underlying22 info_u8 rfl vw11a (cells (encZ z)) rfl w10.heap.size hxw11a (Nat.le_refl _) hovw11a w.heap.size A l.length c _ rfl (cells_length _).symm (hin.rd.below (hbw10.trans (hxw11a.mono hszw10))) (bytes_one _) (by rw [cells_length]; omega) (by rw [cells_length]; omega) ?_; intro vw11 w11 hovw11 hxw11))
      have hbw11 : Below w.heap.size w w11 := hbw10.trans (hxw11.mono hszw10)
      have hszw11 := hbw11.size
      rw [← cells_append] at hovw11
      obtain ⟨Bw11, cw11, rfl, hcw11, hmw11, hrw11⟩ := bs_shape hovw11
      rw [List.length_append] at hcw11
      go_wp2_with fail
      refine (takeInts_any Bw11 (encZ z ++ l) cw11 _ hrw11 (by rw [List.length_append]; omega)).mono ?_
      rintro e w12 ⟨vq, rfl, hovq, hb12⟩
      have hbw12 : Below w.heap.size w w12 := hbw11.trans (hb12.mono hszw11)
      have hqz := HQ.out
      obtain ⟨Aq, cq, rfl, hcq, hcqx, hrq⟩ := is_shape hovq
      clear hovd hbw9 hbw10 hsA10 hszw10 hxw11 hxw11a hovw11a hovw11 hrw11 hb12 hbw11 hovq
      go_wp2_with fail
      refine (same_any Aq Az _ z cq cz w12.heap.size _ hrq ((hz.rd.below hbw12).more hbw12.size) (by omega) (by omega)).mono ?_
      rintro e w13 ⟨rfl, hb13⟩
      have hbw13 : Below w.heap.size w w13 := hbw12.trans (hb13.mono hbw12.size)
      clear hrq hb13 hbw12
      rcases factZ z HZ.out l with ⟨j1, j2⟩ | ⟨j1, j2, j3, j4, j5⟩
      · rw [j2]
        have j6 : decide ((z.length : Int) ≤ 4096) = false := by simp; omega
        go_wp2
        go_ret
        exact ⟨rfl, hbw13⟩
      · rw [j2, j3, j4, j5, decide_eq_true rfl]
        go_wp2
        go_ret
        exact ⟨rfl, hbw13⟩
    · rw [k2, k3, k4, k5]
      go_wp2_with fail
      refine (ints_tot Az z _ cz rfl _ ((hz.rd.below hbw9).more hbw9.size) HZ.out (by omega)).mono ?_
      rintro e w10 ⟨vd, rfl, hovd, hbw10⟩
      replace hbw10 := hbw9.trans (hbw10.mono hbw9.size)
      obtain ⟨A10, c10, rfl, hc10, _, hsA10⟩ := bs_shape hovd
      have hszw10 := hbw10.size
      go_wp2_with (first | (at_builtin; refine wpList_app0 rfl (.tmp 156) (.tmp 157) 22 rfl 5 (.int .u8 0) 1 Try.underlying22 info_u8 rfl rfl A10 (encZ z).length c10 _ rfl (cells_length _).symm hsA10 (bytes_one _) (by omega) (by omega) ?_; intro vw11a ww11a hovw11a hxw11a) | (at_builtin; refine wpList_app1 (W := w10) rfl (.tmp 158) (.tmp 159) 22 rfl 5 (.int .u8 0) 1 Try.underlying22 info_u8 rfl vw11a (cells (encZ z)) rfl w10.heap.size hxw11a (Nat.le_refl _) hovw11a w.heap.size A l.length c _ rfl (cells_length _).symm (hin.rd.below (hbw10.trans (hxw11a.mono hszw10))) (bytes_one _) (by rw [cells_length]; omega) (by rw [cells_length]; omega) ?_; intro vw11 w11 hovw11 hxw11))
      have hbw11 : Below w.heap.size w w11 := hbw10.trans (hxw11.mono hszw10)
      have hszw11 := hbw11.size
      rw [← cells_append] at hovw11
      obtain ⟨Bw11, cw11, rfl, hcw11, hmw11, hrw11⟩ := bs_shape hovw11
      rw [List.length_append] at hcw11
      go_wp2_with fail
      refine (takeInts_any Bw11 (encZ z ++ l) cw11 _ hrw11 (by rw [List.length_append]; omega)).mono ?_
      rintro e w12 ⟨vq, rfl, hovq, hb12⟩
      have hbw12 : Below w.heap.size w w12 := hbw11.trans (hb12.mono hszw11)
      have hqz := HQ.out
      obtain ⟨Aq, cq, rfl, hcq, hcqx, hrq⟩ := is_shape hovq
      clear hovd hbw9 hbw10 hsA10 hszw10 hxw11 hxw11a hovw11a hovw11 hrw11 hb12 hbw11 hovq
      go_wp2_with fail
      refine (same_any Aq Az _ z cq cz w12.heap.size _ hrq ((hz.rd.below hbw12).more hbw12.size) (by omega) (by omega)).mono ?_
      rintro e w13 ⟨rfl, hb13⟩
      have hbw13 : Below w.heap.size w w13 := hbw12.trans (hb13.mono hbw12.size)
      clear hrq hb13 hbw12
      rcases factZ z HZ.out l with ⟨j1, j2⟩ | ⟨j1, j2, j3, j4, j5⟩
      · rw [j2]
        have j6 : decide ((z.length : Int) ≤ 4096) = false := by simp; omega
        go_wp2
        go_ret
        exact ⟨rfl, hbw13⟩
      · rw [j2, j3, j4, j5, decide_eq_true rfl]
        go_wp2
        go_ret
        exact ⟨rfl, hbw13⟩
  · rw [h2, h3, h4, h5]
    go_wp2_with fail
    refine (int_any n HN.out _).mono ?_
    rintro e w4 ⟨vb, rfl, hovb, hbw4⟩
    replace hbw4 := hbw3.trans (hbw4.mono hbw3.size)
    obtain ⟨A4, c4, rfl, hc4, _, hsA4⟩ := bs_shape hovb
    have hszw4 := hbw4.size
    go_wp2_with (first | (at_builtin; refine wpList_app0 rfl (.tmp 84) (.tmp 85) 22 rfl 5 (.int .u8 0) 1 Try.underlying22 info_u8 rfl rfl A4 (enc (fold1 n)).length c4 _ rfl (cells_length _).symm hsA4 (bytes_one _) (by omega) (by omega) ?_; intro vw5a ww5a hovw5a hxw5a) | (at_builtin; refine wpList_app1 (W := w4) rfl (.tmp 86) (.tmp 87) 22 rfl 5 (.int .u8 0) 1 Try.underlying22 info_u8 rfl vw5a (cells (enc (fold1 n))) rfl w4.heap.size hxw5a (Nat.le_refl _) hovw5a w.heap.size A l.length c _ rfl (cells_length _).symm (hin.rd.below (hbw4.trans (hxw5a.mono hszw4))) (bytes_one _) (by rw [cells_length]; omega) (by rw [cells_length]; omega) ?_; intro vw5 w5 hovw5 hxw5))
    have hbw5 : Below w.heap.size w w5 := hbw4.trans (hxw5.mono hszw4)
    have hszw5 := hbw5.size
    rw [← cells_append] at hovw5
    obtain ⟨Bw5, cw5, rfl, hcw5, hmw5, hrw5⟩ := bs_shape hovw5
    rw [List.length_append] at hcw5
    go_wp2_with fail
    refine (takeInt_any Bw5 (enc (fold1 n) ++ l) cw5 _ hrw5 (by rw [List.length_append]; omega)).mono ?_
    rintro e w6 ⟨rfl, hb56⟩
    have hbw6 : Below w.heap.size w w6 := hbw5.trans (hb56.mono hszw5)
    clear hovb hbw3 hbw4 hsA4 hszw4 hxw5 hxw5a hovw5a hovw5 hrw5 hb56 hbw5
    rw [(FI.out).1, (FI.out).2.1, (FI.out).2.2]
    have hp4 := HP.out
    go_wp2_with fail
    refine (text_tot s (by omega) _).mono ?_
    rintro e w7 ⟨vc, rfl, hovc, hbw7⟩
    replace hbw7 := hbw6.trans (hbw7.mono hbw6.size)
    obtain ⟨A7, c7, rfl, hc7, _, hsA7⟩ := bs_shape hovc
    have hszw7 := hbw7.size
    go_wp2_with (first | (at_builtin; refine wpList_app0 rfl (.tmp 116) (.tmp 117) 22 rfl 5 (.int .u8 0) 1 Try.underlying22 info_u8 rfl rfl A7 (encT s.data.toList).length c7 _ rfl (cells_length _).symm hsA7 (bytes_one _) (by omega) (by omega) ?_; intro vw8a ww8a hovw8a hxw8a) | (at_builtin; refine wpList_app1 (W := w7) rfl (.tmp 118) (.tmp 119) 22 rfl 5 (.int .u8 0) 1 Try.underlying22 info_u8 rfl vw8a (cells (encT s.data.toList)) rfl w7.heap.size hxw8a (Nat.le_refl _) hovw8a w.heap.size A l.length c _ rfl (cells_length _).symm (hin.rd.below (hbw7.trans (hxw8a.mono hszw7))) (bytes_one _) (by rw [cells_length]; omega) (by rw [cells_length]; omega) ?_; intro vw8 w8 hovw8 hxw8))
    have hbw8 : Below w.heap.size w w8 := hbw7.trans (hxw8.mono hszw7)
    have hszw8 := hbw8.size
    rw [← cells_append] at hovw8
    obtain ⟨Bw8, cw8, rfl, hcw8, hmw8, hrw8⟩ := bs_shape hovw8
    rw [List.length_append] at hcw8
    go_wp2_with fail
    refine (takeText_any Bw8 (encT s.data.toList ++ l) cw8 _ hrw8 (by rw [List.length_append]; omega) (by rw [List.length_append]; omega)).mono ?_
    rintro e w9 ⟨rfl, hb89⟩
    have hbw9 : Below w.heap.size w w9 := hbw8.trans (hb89.mono hszw8)
    clear hovc hbw6 hbw7 hsA7 hszw7 hxw8 hxw8a hovw8a hovw8 hrw8 hb89 hbw8
    rcases factT s l with ⟨k1, k2⟩ | ⟨k1, k2, k3, k4, k5⟩
    · rw [k2]
      go_wp2_with fail
      refine (ints_tot Az z _ cz rfl _ ((hz.rd.below hbw9).more hbw9.size) HZ.out (by omega)).mono ?_
      rintro e w10 ⟨vd, rfl, hovd, hbw10⟩
      replace hbw10 := hbw9.trans (hbw10.mono hbw9.size)
      obtain ⟨A10, c10, rfl, hc10, _, hsA10⟩ := bs_shape hovd
      have hszw10 := hbw10.size
      go_wp2_with (first | (at_builtin; refine wpList_app0 rfl (.tmp 156) (.tmp 157) 22 rfl 5 (.int .u8 0) 1 Try.underlying22 info_u8 rfl rfl A10 (encZ z).length c10 _ rfl (cells_length _).symm hsA10 (bytes_one _) (by omega) (by omega) ?_; intro vw11a ww11a hovw11a hxw11a) | (at_builtin; refine wpList_app1 (W := w10) rfl (.tmp 158) (.tmp 159) 22 rfl 5 (.int .u8 0) 1 Try.underlying22 info_u8 rfl vw11a (cells (encZ z)) rfl w10.heap.size hxw11a (Nat.le_refl _) hovw11a w.heap.size A l.length c _ rfl (cells_length _).symm (hin.rd.below (hbw10.trans (hxw11a.mono hszw10))) (bytes_one _) (by rw [cells_length]; omega) (by rw [cells_length]; omega) ?_; intro vw11 w11 hovw11 hxw11))
      have hbw11 : Below w.heap.size w w11 := hbw10.trans (hxw11.mono hszw10)
      have hszw11 := hbw11.size
      rw [← cells_append] at hovw11
      obtain ⟨Bw11, cw11, rfl, hcw11, hmw11, hrw11⟩ := bs_shape hovw11
      rw [List.length_append] at hcw11
      go_wp2_with fail
      refine (takeInts_any Bw11 (encZ z ++ l) cw11 _ hrw11 (by rw [List.length_append]; omega)).mono ?_
      rintro e w12 ⟨vq, rfl, hovq, hb12⟩
      have hbw12 : Below w.heap.size w w12 := hbw11.trans (hb12.mono hszw11)
      have hqz := HQ.out
      obtain ⟨Aq, cq, rfl, hcq, hcqx, hrq⟩ := is_shape hovq
      clear hovd hbw9 hbw10 hsA10 hszw10 hxw11 hxw11a hovw11a hovw11 hrw11 hb12 hbw11 hovq
      go_wp2_with fail
      refine (same_any Aq Az _ z cq cz w12.heap.size _ hrq ((hz.rd.below hbw12).more hbw12.size) (by omega) (by omega)).mono ?_
      rintro e w13 ⟨rfl, hb13⟩
      have hbw13 : Below w.heap.size w w13 := hbw12.trans (hb13.mono hbw12.size)
      clear hrq hb13 hbw12
      rcases factZ z HZ.out l with ⟨j1, j2⟩ | ⟨j1, j2, j3, j4, j5⟩
      · rw [j2]
        have j6 : decide ((z.length : Int) ≤ 4096) = false := by simp; omega
        go_wp2
        go_ret
        exact ⟨rfl, hbw13⟩
      · rw [j2, j3, j4, j5, decide_eq_true rfl]
        go_wp2
        go_ret
        exact ⟨rfl, hbw13⟩
    · rw [k2, k3, k4, k5]
      go_wp2_with fail
      refine (ints_tot Az z _ cz rfl _ ((hz.rd.below hbw9).more hbw9.size) HZ.out (by omega)).mono ?_
      rintro e w10 ⟨vd, rfl, hovd, hbw10⟩
      replace hbw10 := hbw9.trans (hbw10.mono hbw9.size)
      obtain ⟨A10, c10, rfl, hc10, _, hsA10⟩ := bs_shape hovd
      have hszw10 := hbw10.size
      go_wp2_with (first | (at_builtin; refine wpList_app0 rfl (.tmp 156) (.tmp 157) 22 rfl 5 (.int .u8 0) 1 Try.underlying22 info_u8 rfl rfl A10 (encZ z).length c10 _ rfl (cells_length _).symm hsA10 (bytes_one _) (by omega) (by omega) ?_; intro vw11a ww11a hovw11a hxw11a) | (at_builtin; refine wpList_app1 (W := w10) rfl (.tmp 158) (.tmp 159) 22 rfl 5 (.int .u8 0) 1 Try.underlying22 info_u8 rfl vw11a (cells (encZ z)) rfl w10.heap.size hxw11a (Nat.le_refl _) hovw11a w.heap.size A l.length c _ rfl (cells_length _).symm (hin.rd.below (hbw10.trans (hxw11a.mono hszw10))) (bytes_one _) (by rw [cells_length]; omega) (by rw [cells_length]; omega) ?_; intro vw11 w11 hovw11 hxw11))
      have hbw11 : Below w.heap.size w w11 := hbw10.trans (hxw11.mono hszw10)
      have hszw11 := hbw11.size
      rw [← cells_append] at hovw11
      obtain ⟨Bw11, cw11, rfl, hcw11, hmw11, hrw11⟩ := bs_shape hovw11
      rw [List.length_append] at hcw11
      go_wp2_with fail
      refine (takeInts_any Bw11 (encZ z ++ l) cw11 _ hrw11 (by rw [List.length_append]; omega)).mono ?_
      rintro e w12 ⟨vq, rfl, hovq, hb12⟩
      have hbw12 : Below w.heap.size w w12 := hbw11.trans (hb12.mono hszw11)
      have hqz := HQ.out
      obtain ⟨Aq, cq, rfl, hcq, hcqx, hrq⟩ := is_shape hovq
      clear hovd hbw9 hbw10 hsA10 hszw10 hxw11 hxw11a hovw11a hovw11 hrw11 hb12 hbw11 hovq
      go_wp2_with fail
      refine (same_any Aq Az _ z cq cz w12.heap.size _ hrq ((hz.rd.below hbw12).more hbw12.size) (by omega) (by omega)).mono ?_
      rintro e w13 ⟨rfl, hb13⟩
      have hbw13 : Below w.heap.size w w13 := hbw12.trans (hb13.mono hbw12.size)
      clear hrq hb13 hbw12
      rcases factZ z HZ.out l with ⟨j1, j2⟩ | ⟨j1, j2, j3, j4, j5⟩
      · rw [j2]
        have j6 : decide ((z.length : Int) ≤ 4096) = false := by simp; omega
        go_wp2
        go_ret
        exact ⟨rfl, hbw13⟩
      · rw [j2, j3, j4, j5, decide_eq_true rfl]
        go_wp2
        go_ret
        exact ⟨rfl, hbw13⟩

set_option maxHeartbeats 1000000 in
set_option maxRecDepth 100000 in
theorem octetBack_walk (w : World) (n : Int) (hn : -9223372036854775808 ≤ n ∧ n ≤ 9223372036854775807) (s : ByteArray) (hs : s.size ≤ 140737488351232) (Az : Option Addr) (z : List Int) (cz : Nat) (hz : InInts w Az z cz) (A : Option Addr) (l : List UInt8) (c : Nat) (hin : In8 w A l c) :
    Calls Try.prog 9 #[.int .i64 n, .string s, .slice Az z.length cz, .slice A l.length c] w fun e w' => e = .returned (.bool true) ∧ Below w.heap.size w w' := by
  have hll := hin.le
  have hzl := hz.le
  by_cases g1 : l.length ≤ 1048576
  · by_cases g2 : s.size ≤ 1048576
    · by_cases g3 : z.length ≤ 65536
      · exact back_core w n hn s Az z cz hz A l c hin g1 g2 g3
      · go_enter Try.func9, Try.ntmps9
        go_wp2
        go_ret
        exact ⟨rfl, Below.refl _ _⟩
    · go_enter Try.func9, Try.ntmps9
      go_wp2
      go_ret
      exact ⟨rfl, Below.refl _ _⟩
  · go_enter Try.func9, Try.ntmps9
    go_wp2
    go_ret
    exact ⟨rfl, Below.refl _ _⟩
end Go.Proofs.Ytelplpajpfkfiaa
