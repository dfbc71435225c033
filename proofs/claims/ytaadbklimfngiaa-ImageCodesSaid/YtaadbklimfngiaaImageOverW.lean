/- The owner of an instance writes over it (pavanelaw15.Over): the walk. Condition: the instance is a call's own. -/
import Derived.Test.YtaadbklimfngiaaImageOver
set_option linter.unusedVariables false
namespace Go.Proofs.Ytaadbklimfngiaa
open Go.RowKit Oct

theorem five_ov {w : World} {g : Nat} {t : TypeId} {a b c d e : Value} (h : Blk w g t #[a, b, c, d, e]) : w.cell? ⟨g, 0, none⟩ = some a ∧ w.cell? ⟨g, 1, none⟩ = some b ∧ w.cell? ⟨g, 2, none⟩ = some c ∧ w.cell? ⟨g, 3, none⟩ = some d ∧ w.cell? ⟨g, 4, none⟩ = some e :=
  ⟨h.cell 0, h.cell 1, h.cell 2, h.cell 3, h.cell 4⟩
theorem RowS.own {w : World} {base : Nat} {T : TypeId} {size n : Nat} {A : Option Addr} {c : Nat} (h : RowS w base T size (.slice A n c) n) {j : Nat} (hj : j < n * size) : ∃ g cur, A = some ⟨g, 0, none⟩ ∧ base ≤ g ∧ w.heap[g]? = some (Obj.cells cur T (0, 0)) ∧ j < cur.size := by
  obtain ⟨A', c', hv, hg⟩ := h
  have h0 : 0 < n := by
    rcases Nat.eq_zero_or_pos n with h | h
    · rw [h] at hj; simp at hj
    · exact h
  obtain ⟨g, cur, h1, h2, h3, h4⟩ := hg h0
  injection hv with hA
  exact ⟨g, cur, by rw [hA, h1], h2, h3, by omega⟩
theorem OvAt.setP {w : World} {base : Nat} {v1 : Value} {n1 : Nat} {v2 : Value} {n2 : Nat} {v3 : Value} {es : List PE} {v4 : Value} {n4 i : Nat} (h : OvAt w base v1 n1 v2 n2 v3 es v4 n4 i) {gp : Nat} (hb : base ≤ gp) (j : Nat) (u : Value) (i' : Nat) (hi : i ≤ i') (hj : ∀ k', i' ≤ k' → j ≠ k' * 2 + 1) :
    OvAt (w.setCell ⟨gp, j, none⟩ u) base v1 n1 v2 n2 v3 es v4 n4 i' := by
  have ht := Turn.set w hb j u
  refine ⟨h.act.turn ht, h.nums.turn ht, h.past.turn ht, h.tms.turn ht, fun k hk hik => ?_, fun e he => (h.each e he).turn ht⟩
  obtain ⟨g', c, hv, hc⟩ := h.rows k hk (by omega)
  refine ⟨g', c, hv, ?_⟩
  have hne : (⟨gp, j, none⟩ : Addr) ≠ ⟨g', k * 2 + 1, none⟩ := fun e => by
    injection e with _ e _
    exact hj k hik e
  rw [World.cell?_setCell_other (h := hne)]
  exact hc
set_option maxHeartbeats 4000000 in
set_option maxRecDepth 100000 in
theorem over15_at (n1 n2 n4 : Nat) (es : List PE) (A1 : Option Addr) (c1 : Nat) (A2 : Option Addr) (c2 : Nat) (A3 : Option Addr) (c3 : Nat) (A4 : Option Addr) (c4 : Nat) (now : Int) (base : Nat) (w : World) (hO : OvAt w base (.slice A1 n1 c1) n1 (.slice A2 n2 c2) n2 (.slice A3 es.length c3) es (.slice A4 n4 c4) n4 0) (hbase : base ≤ w.heap.size)
    (hm1 : n1 ≤ 4611686018427387904) (hm2 : n2 ≤ 4611686018427387904) (hm3 : es.length ≤ 1000000000000) (hm4 : n4 ≤ 1000000000000) (hmz : ∀ e ∈ es, e.1.z.length ≤ 4611686018427387904) :
    Calls Try.prog 74 #[.agg #[.slice A1 n1 c1, .slice A2 n2 c2, .slice A3 es.length c3, .slice A4 n4 c4, .int .i64 now]] w fun e w' => e = .returned (.tuple #[]) ∧ Below base w w' := by
  have hb0 := (Below.refl w.heap.size w).alloc (Nat.le_refl _) (.cells #[.slice A1 n1 c1, .slice A2 n2 c2, .slice A3 es.length c3, .slice A4 n4 c4, .int .i64 now] 87)
  have HK0 := Lib.hid (Blk.new w 87 #[.slice A1 n1 c1, .slice A2 n2 c2, .slice A3 es.length c3, .slice A4 n4 c4, .int .i64 now])
  have HO0 := Lib.hid (hO.new hb0 hbase)
  have HB0 := Lib.hid (hb0.mono hbase)
  have HMZ := Lib.hid hmz
  clear hb0 hO hmz
  obtain ⟨B, hB⟩ : ∃ B, B = w.heap.size := ⟨_, rfl⟩
  go_enter Try.func74, Try.ntmps74
  go_upto_region 1 with fail
  rw [← hB] at HK0 ⊢
  generalize w.alloc (.cells #[.slice A1 n1 c1, .slice A2 n2 c2, .slice A3 es.length c3, .slice A4 n4 c4, .int .i64 now] 87) = w0 at HK0 HO0 HB0 ⊢
  have hBb : base ≤ B := by omega
  clear hB
  go_wp2_with fail
  go_loopw [2] (fun i wr => ∃ k : Nat, k ≤ n1 ∧ i = .int .i64 k ∧ Hid (OvAt wr base (.slice A1 n1 c1) n1 (.slice A2 n2 c2) n2 (.slice A3 es.length c3) es (.slice A4 n4 c4) n4 0) ∧ Hid (Blk wr B 87 #[.slice A1 n1 c1, .slice A2 n2 c2, .slice A3 es.length c3, .slice A4 n4 c4, .int .i64 now]) ∧ Hid (Below base w wr)) (fun i _ => n1 - (intOf i).toNat)
  case atStart => exact ⟨0, Nat.zero_le _, rfl, HO0, HK0, HB0⟩
  case round =>
    obtain ⟨k, hk, rfl, hO1, hK1, hB1⟩ := hrel
    clear HO0 HK0 HB0
    obtain ⟨b0, b1, b2, b3, b4⟩ := five_ov hK1.out
    by_cases hlt : k < n1
    · have hltI : (k : Int) < n1 := by omega
      obtain ⟨g, cur, rfl, hgb, hg, hj⟩ := hO1.out.act.own (j := k) (by omega)
      have hblk : Blk wr g 3 cur := hg
      have hgB : B ≠ g := fun e => by
        have h1 := hK1.out
        unfold Blk at h1
        rw [e, hg] at h1
        simp at h1
      obtain ⟨u0, hu0⟩ : ∃ u, wr.cell? ⟨g, k, none⟩ = some u := ⟨_, (hblk.cell (k)).trans (Array.getElem?_eq_getElem (by omega))⟩
      have hf0 := hblk.frozen (k)
      have o0 := OvAt.set (hO1.out) hgb hg (by decide) (k) (.int .i64 (-7))
      have kk0 := Blk.far (p := ⟨g, k, none⟩) (hK1.out) hgB (.int .i64 (-7))
      have bb0 := Below.setCell (p := ⟨g, k, none⟩) (hB1.out) hgb (.int .i64 (-7))
      have g0 := Blk.set_ (hblk) (k) (.int .i64 (-7))
      have HO' := Lib.hid o0
      have HK' := Lib.hid kk0
      have HB' := Lib.hid bb0
      clear hblk hg o0 kk0 bb0 g0 hO1 hK1 hB1 hj
      go_wp2
      go_roundw
      case rel => exact ⟨k + 1, by omega, by go_num, HO', HK', HB'⟩
      case measure => simp [intOf]; omega
    · have hltI : ¬ (k : Int) < n1 := by omega
      clear hlt
      obtain ⟨w1, hw1⟩ : ∃ u, u = wr := ⟨_, rfl⟩
      subst hw1
      go_wp2_with fail
      go_loopw [3] (fun i wr => ∃ k : Nat, k ≤ n2 ∧ i = .int .i64 k ∧ Hid (OvAt wr base (.slice A1 n1 c1) n1 (.slice A2 n2 c2) n2 (.slice A3 es.length c3) es (.slice A4 n4 c4) n4 0) ∧ Hid (Blk wr B 87 #[.slice A1 n1 c1, .slice A2 n2 c2, .slice A3 es.length c3, .slice A4 n4 c4, .int .i64 now]) ∧ Hid (Below base w wr)) (fun i _ => n2 - (intOf i).toNat)
      case atStart => exact ⟨0, Nat.zero_le _, rfl, hO1, hK1, hB1⟩
      case round =>
        obtain ⟨k, hk, rfl, hO2, hK2, hB2⟩ := hrel
        clear hO1 hK1 hB1
        obtain ⟨b0, b1, b2, b3, b4⟩ := five_ov hK2.out
        by_cases hlt : k < n2
        · have hltI : (k : Int) < n2 := by omega
          obtain ⟨g, cur, rfl, hgb, hg, hj⟩ := hO2.out.nums.own (j := k) (by omega)
          have hblk : Blk wr g 3 cur := hg
          have hgB : B ≠ g := fun e => by
            have h1 := hK2.out
            unfold Blk at h1
            rw [e, hg] at h1
            simp at h1
          obtain ⟨u0, hu0⟩ : ∃ u, wr.cell? ⟨g, k, none⟩ = some u := ⟨_, (hblk.cell (k)).trans (Array.getElem?_eq_getElem (by omega))⟩
          have hf0 := hblk.frozen (k)
          have o0 := OvAt.set (hO2.out) hgb hg (by decide) (k) (.int .i64 (-7))
          have kk0 := Blk.far (p := ⟨g, k, none⟩) (hK2.out) hgB (.int .i64 (-7))
          have bb0 := Below.setCell (p := ⟨g, k, none⟩) (hB2.out) hgb (.int .i64 (-7))
          have g0 := Blk.set_ (hblk) (k) (.int .i64 (-7))
          have HO' := Lib.hid o0
          have HK' := Lib.hid kk0
          have HB' := Lib.hid bb0
          clear hblk hg o0 kk0 bb0 g0 hO2 hK2 hB2 hj
          go_wp2
          go_roundw
          case rel => exact ⟨k + 1, by omega, by go_num, HO', HK', HB'⟩
          case measure => simp [intOf]; omega
        · have hltI : ¬ (k : Int) < n2 := by omega
          clear hlt
          obtain ⟨w2, hw2⟩ : ∃ u, u = wr := ⟨_, rfl⟩
          subst hw2
          go_wp2_with fail
          go_loopw [4] (fun i wr => ∃ k : Nat, k ≤ n4 ∧ i = .int .i64 k ∧ Hid (OvAt wr base (.slice A1 n1 c1) n1 (.slice A2 n2 c2) n2 (.slice A3 es.length c3) es (.slice A4 n4 c4) n4 0) ∧ Hid (Blk wr B 87 #[.slice A1 n1 c1, .slice A2 n2 c2, .slice A3 es.length c3, .slice A4 n4 c4, .int .i64 now]) ∧ Hid (Below base w wr)) (fun i _ => n4 - (intOf i).toNat)
          case atStart => exact ⟨0, Nat.zero_le _, rfl, hO2, hK2, hB2⟩
          case round =>
            obtain ⟨k, hk, rfl, hO3, hK3, hB3⟩ := hrel
            clear hO2 hK2 hB2
            obtain ⟨b0, b1, b2, b3, b4⟩ := five_ov hK3.out
            by_cases hlt : k < n4
            · have hltI : (k : Int) < n4 := by omega
              obtain ⟨g, cur, rfl, hgb, hg, hj⟩ := hO3.out.tms.own (j := k * 3 + 2) (by omega)
              have hblk : Blk wr g 136 cur := hg
              have hgB : B ≠ g := fun e => by
                have h1 := hK3.out
                unfold Blk at h1
                rw [e, hg] at h1
                simp at h1
              obtain ⟨u0, hu0⟩ : ∃ u, wr.cell? ⟨g, k * 3, none⟩ = some u := ⟨_, (hblk.cell (k * 3)).trans (Array.getElem?_eq_getElem (by omega))⟩
              have hf0 := hblk.frozen (k * 3)
              obtain ⟨u1, hu1⟩ : ∃ u, wr.cell? ⟨g, k * 3 + 1, none⟩ = some u := ⟨_, (hblk.cell (k * 3 + 1)).trans (Array.getElem?_eq_getElem (by omega))⟩
              have hf1 := hblk.frozen (k * 3 + 1)
              obtain ⟨u2, hu2⟩ : ∃ u, wr.cell? ⟨g, k * 3 + 2, none⟩ = some u := ⟨_, (hblk.cell (k * 3 + 2)).trans (Array.getElem?_eq_getElem (by omega))⟩
              have hf2 := hblk.frozen (k * 3 + 2)
              have o0 := OvAt.set (hO3.out) hgb hg (by decide) (k * 3) (.int .i64 (-7))
              have kk0 := Blk.far (p := ⟨g, k * 3, none⟩) (hK3.out) hgB (.int .i64 (-7))
              have bb0 := Below.setCell (p := ⟨g, k * 3, none⟩) (hB3.out) hgb (.int .i64 (-7))
              have g0 := Blk.set_ (hblk) (k * 3) (.int .i64 (-7))
              have o1 := OvAt.set (o0) hgb g0 (by decide) (k * 3 + 1) (.int .i64 0)
              have kk1 := Blk.far (p := ⟨g, k * 3 + 1, none⟩) (kk0) hgB (.int .i64 0)
              have bb1 := Below.setCell (p := ⟨g, k * 3 + 1, none⟩) (bb0) hgb (.int .i64 0)
              have g1 := Blk.set_ (g0) (k * 3 + 1) (.int .i64 0)
              have o2 := OvAt.set (o1) hgb g1 (by decide) (k * 3 + 2) (.int .i64 0)
              have kk2 := Blk.far (p := ⟨g, k * 3 + 2, none⟩) (kk1) hgB (.int .i64 0)
              have bb2 := Below.setCell (p := ⟨g, k * 3 + 2, none⟩) (bb1) hgb (.int .i64 0)
              have g2 := Blk.set_ (g1) (k * 3 + 2) (.int .i64 0)
              have HO' := Lib.hid o2
              have HK' := Lib.hid kk2
              have HB' := Lib.hid bb2
              clear hblk hg o0 kk0 bb0 g0 o1 kk1 bb1 g1 o2 kk2 bb2 g2 hO3 hK3 hB3 hj
              go_wp2
              go_roundw
              case rel => exact ⟨k + 1, by omega, by go_num, HO', HK', HB'⟩
              case measure => simp [intOf]; omega
            · have hltI : ¬ (k : Int) < n4 := by omega
              clear hlt
              obtain ⟨w3, hw3⟩ : ∃ u, u = wr := ⟨_, rfl⟩
              subst hw3
              go_wp2_with fail
              go_loopw [5] (fun i wr => ∃ k : Nat, k ≤ es.length ∧ i = .int .i64 k ∧ Hid (OvAt wr base (.slice A1 n1 c1) n1 (.slice A2 n2 c2) n2 (.slice A3 es.length c3) es (.slice A4 n4 c4) n4 k) ∧ Hid (Blk wr B 87 #[.slice A1 n1 c1, .slice A2 n2 c2, .slice A3 es.length c3, .slice A4 n4 c4, .int .i64 now]) ∧ Hid (Below base w wr)) (fun i _ => es.length - (intOf i).toNat)
              case atStart => exact ⟨0, Nat.zero_le _, rfl, hO3, hK3, hB3⟩
              case round =>
                obtain ⟨k, hk, rfl, hO4, hK4, hB4⟩ := hrel
                clear hO3 hK3 hB3
                obtain ⟨b0, b1, b2, b3, b4⟩ := five_ov hK4.out
                by_cases hlt : k < es.length
                · have hltI : (k : Int) < es.length := by omega
                  obtain ⟨gp, c', hv, hcell⟩ := hO4.out.rows k hlt (Nat.le_refl _)
                  have hA : A3 = some ⟨gp, 0, none⟩ := by injection hv
                  subst hA
                  clear hv
                  have hz := HMZ.out _ (List.getElem_mem hlt)
                  obtain ⟨Ak, ck, hvk, _⟩ := hO4.out.each _ (List.getElem_mem hlt)
                  have HEK := Lib.hid (List.getElem_mem hlt)
                  have HVK := Lib.hid hvk
                  obtain ⟨zl, hzl⟩ : ∃ u, u = es[k].1.z.length := ⟨_, rfl⟩
                  rw [← hzl] at hz
                  have HZL := Lib.hid hzl
                  clear hvk hzl hcell
                  obtain ⟨wo, hwo⟩ : ∃ u, u = wr := ⟨_, rfl⟩
                  subst hwo
                  go_wp2_with fail
                  go_loopw [6] (fun j wq => ∃ q : Nat, q ≤ zl ∧ j = .int .i64 q ∧ Hid (OvAt wq base (.slice A1 n1 c1) n1 (.slice A2 n2 c2) n2 (.slice (some ⟨gp, 0, none⟩) es.length c3) es (.slice A4 n4 c4) n4 k) ∧ Hid (Blk wq B 87 #[.slice A1 n1 c1, .slice A2 n2 c2, .slice (some ⟨gp, 0, none⟩) es.length c3, .slice A4 n4 c4, .int .i64 now]) ∧ Hid (Below base w wq)) (fun j _ => zl - (intOf j).toNat)
                  case atStart => exact ⟨0, Nat.zero_le _, rfl, hO4, hK4, hB4⟩
                  case round =>
                    obtain ⟨q, hq, rfl, hO5, hK5, hB5⟩ := hrel
                    clear hO4 hK4 hB4 b0 b1 b2 b3 b4
                    obtain ⟨b0, b1, b2, b3, b4⟩ := five_ov hK5.out
                    obtain ⟨gp', c'', hv, hcell⟩ := hO5.out.rows k hlt (Nat.le_refl _)
                    have hA : gp = gp' := by injection hv with hA; injection hA with hA; injection hA
                    subst hA
                    clear hv
                    rw [HVK.out, ← HZL.out] at hcell
                    by_cases hlq : q < zl
                    · have hlqI : (q : Int) < zl := by omega
                      have hrow := hO5.out.each _ HEK.out
                      rw [HVK.out, ← HZL.out] at hrow
                      obtain ⟨gk, cur, rfl, hgb, hg, hj⟩ := hrow.own (j := q) (by omega)
                      have hblk : Blk wr gk 3 cur := hg
                      have hgB : B ≠ gk := fun e => by
                        have h1 := hK5.out
                        unfold Blk at h1
                        rw [e, hg] at h1
                        simp at h1
                      obtain ⟨u0, hu0⟩ : ∃ u, wr.cell? ⟨gk, q, none⟩ = some u := ⟨_, (hblk.cell q).trans (Array.getElem?_eq_getElem (by omega))⟩
                      have hf0 := hblk.frozen q
                      have HO' := Lib.hid (hO5.out.set hgb hg (by decide) q (.int .i64 (-7)))
                      have HK' := Lib.hid (Blk.far (p := ⟨gk, q, none⟩) hK5.out hgB (.int .i64 (-7)))
                      have HB' := Lib.hid (hB5.out.setCell (p := ⟨gk, q, none⟩) hgb (.int .i64 (-7)))
                      clear hblk hg hO5 hK5 hB5 hj hrow hgB
                      go_wp2
                      go_roundw
                      case rel => exact ⟨q + 1, by omega, by go_num, HO', HK', HB'⟩
                      case measure => simp [intOf]; omega
                    · have hlqI : ¬ (q : Int) < zl := by omega
                      clear hlq
                      have hpr := hO5.out.past
                      obtain ⟨gp2, cur, hA2, hgb, hg, hj⟩ := hpr.own (j := k * 2 + 1) (by omega)
                      have hA3 : gp = gp2 := by injection hA2 with hA2; injection hA2
                      subst hA3
                      clear hA2
                      have hblk : Blk wr gp 129 cur := hg
                      have hgB : B ≠ gp := fun e => by
                        have h1 := hK5.out
                        unfold Blk at h1
                        rw [e, hg] at h1
                        simp at h1
                      obtain ⟨u0, hu0⟩ : ∃ u, wr.cell? ⟨gp, k * 2, none⟩ = some u := ⟨_, (hblk.cell (k * 2)).trans (Array.getElem?_eq_getElem (by omega))⟩
                      have hf0 := hblk.frozen (k * 2)
                      have hf1 := hblk.frozen (k * 2 + 1)
                      have HO' := Lib.hid ((hO5.out.setP hgb (k * 2) (.int .i64 (-7)) k (Nat.le_refl _) (fun k' h => by omega)).setP hgb (k * 2 + 1) (.slice none 0 0) (k + 1) (Nat.le_succ _) (fun k' h => by omega))
                      have HK' := Lib.hid (Blk.far (p := ⟨gp, k * 2 + 1, none⟩) (Blk.far (p := ⟨gp, k * 2, none⟩) hK5.out hgB (.int .i64 (-7))) hgB (.slice none 0 0))
                      have HB' := Lib.hid ((hB5.out.setCell (p := ⟨gp, k * 2, none⟩) hgb (.int .i64 (-7))).setCell (p := ⟨gp, k * 2 + 1, none⟩) hgb (.slice none 0 0))
                      clear hblk hg hO5 hK5 hB5 hj hpr hgB
                      go_wp2
                      go_roundw
                      case rel => exact ⟨k + 1, by omega, by go_num, HO', HK', HB'⟩
                      case measure => simp [intOf]; omega
                · have hltI : ¬ (k : Int) < es.length := by omega
                  clear hlt
                  go_wp2
                  go_end0
                  exact ⟨rfl, hB4.out⟩
end Go.Proofs.Ytaadbklimfngiaa
