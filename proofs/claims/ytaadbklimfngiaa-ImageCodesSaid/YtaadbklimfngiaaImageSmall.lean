/- The statements' own small case of instances (pavanelaw18.small). No condition. -/
import Derived.Test.YtaadbklimfngiaaImageB
import Derived.Test.YtaadbklimfngiaaImageRead
import Derived.ArgAppend
import Derived.Deep.DeepCutAuto
set_option linter.unusedVariables false
namespace Go.Proofs.Ytaadbklimfngiaa
open Go.RowKit Oct

/-- 'append(b, x)' on bytes that were handed out: there may be room, or not. -/
theorem wpList_append_got {w : World} {ops : Array Oper} {rest : List Oper} {o : Oper} {a : Act} {Q : Exit → Act → World → Prop} (hgd : o.guard = none) (s x : Operand)
    (ho : o.op = .call { callee := .builtin .append, args := #[s, x], argTypes := #[22, 22] })
    (base : Nat) (v : Value) (l : List UInt8) (hs : a.eval s = v) (hgot : Got w base v l) (hl0 : 0 < l.length) (hl : l.length ≤ 1000000) (b : UInt8) (ad : Addr) (hx : a.eval x = .slice (some ad) 1 1) (hc : w.cell? (ad.add 0) = some (.int .u8 b.toNat)) (hbase : base ≤ w.heap.size)
    (h : ∀ A' c' w', l.length + 1 ≤ c' → c' ≤ 9223372036854775807 → Rd w' w'.heap.size A' (cells (l ++ [b])) → Below base w w' → w.grownBy w' v.ownBlock → wpList Try.prog ops Q rest (a.put o.dst (.slice A' (l.length + 1) c')) w') : wpList Try.prog ops Q (o :: rest) a w := by
  obtain ⟨A, c, hv, h1, h2, hr⟩ := hgot.shape
  obtain ⟨ad0, hA, hb0, hcl⟩ := hr (by rw [cells_length]; exact hl0)
  rcases hgot.row with hn | ⟨g, n, cap, cur, hv2, hg, hblk, hcur, hnc, hcap⟩
  · rw [hv] at hn
    injection hn with _ hn _
    omega
  · have hvv := hv.symm.trans hv2
    injection hvv with e1 e2 e3
    subst e2 e3
    rw [hA] at e1
    injection e1 with e1
    subst e1
    subst hA
    subst hv
    obtain ⟨i, hi, hz, hsize, hby⟩ := info_parts info_u8
    have hcl' : ∀ j u, (cells l)[j]? = some u → w.cell? ⟨g, 0 + j, none⟩ = some u := fun j u hj => by
      have := hcl j u hj
      rwa [Addr.add_lit] at this
    refine wpList_append_arg w hgd s x 22 ho 5 i (.int .u8 0) 1 1 Try.underlying22 hi hz hsize hby rfl (by decide) g 0 l.length c (cells l) hs (by rw [cells_length, Nat.mul_one]) hcl' ad 1 1 [.int .u8 b.toNat] hx rfl (fun j u hj => ?_) (by simp [Value.oneCell']) (fun hroom j hj => ?_) (by unfold maxLen; omega) (by omega) (fun hroom => ?_) (fun hgrow v' w' hown hgb => ?_)
    · match j with
      | 0 => simp at hj; subst hj; exact hc
      | j + 1 => simp at hj
    · simp at hj
      subst hj
      refine ⟨?_, hblk.frozen _⟩
      rw [hblk.cell]
      rw [Array.getElem?_eq_getElem (by omega)]
      rfl
    · refine h _ _ _ hroom h2 ?_ ((Below.refl _ w).setCell (p := ⟨g, 0 + l.length * 1, none⟩) hg (.int .u8 b.toNat)) (grown_setCell w g _ _)
      intro _
      refine ⟨_, rfl, by show g < _; simp [World.setCells]; exact hblk.lt, fun j u hj => ?_⟩
      have hK := Blk.set_ hblk (0 + l.length * 1) (.int .u8 b.toNat)
      rw [Addr.add_lit]
      refine (hK.cell (0 + j)).trans ?_
      rw [Nat.zero_add, Nat.zero_add, Nat.mul_one, Array.getElem?_setIfInBounds]
      have hjl : j < l.length + 1 := by
        have := (List.getElem?_eq_some_iff.1 hj).1
        simpa [cells] using this
      by_cases hjn : l.length = j
      · subst hjn
        rw [if_pos rfl, if_pos (by omega)]
        rw [← hj]
        simp [cells]
      · rw [if_neg hjn]
        have h3 := hcl' j u (by rw [← hj]; simp only [cells, List.map_append]; rw [List.getElem?_append_left (by rw [List.length_map]; omega)])
        rw [Nat.zero_add] at h3
        exact (hblk.cell j).symm.trans h3
    · have e : cells l ++ [.int .u8 b.toNat] = cells (l ++ [b]) := by simp [cells]
      rw [e] at hown
      have hown' : Bs w' w.heap.size v' (l ++ [b]) := by unfold Bs Own; rw [cells_length, List.length_append]; exact hown
      obtain ⟨A', c', rfl, q1, q2, q3⟩ := bs_shape hown'
      have q4 := h A' c' w' (by simpa using q1) (by omega) q3 ((below_of_grown hgb).mono hbase) (grown_of_below (below_of_grown hgb) _)
      simpa using q4
def x18 : InstD := ⟨[0], [], [], [], 3⟩
theorem small18_facts : iE x18 = 0 ∧ rE (iS x18) = 0 ∧ (rX (iS x18)).now = 3 ∧ (rX (iS x18)).act.length = 1 ∧ rE (iS x18 ++ [0]) = 4 ∧ 0 < (iS x18).length ∧ (iS x18).length ≤ 1000 := by
  refine ⟨by decide +kernel, by decide +kernel, by decide +kernel, by decide +kernel, by decide +kernel, by decide +kernel, by decide +kernel⟩
theorem x18_wf : x18.wf := ⟨fun n hn => (by simp [x18] at hn; subst hn; unfold wf64; omega), fun n hn => (by simp [x18] at hn), fun n hn => (by simp [x18] at hn), fun n hn => (by simp [x18] at hn), by unfold wf64 x18; simp⟩
set_option maxHeartbeats 4000000 in
set_option maxRecDepth 100000 in
theorem small18 (w : World) : Calls Try.prog 67 #[] w fun e w' => e = .returned (.bool true) ∧ Below w.heap.size w w' := by
  obtain ⟨F1, F2, F3, F4, F5, F6, F7⟩ := small18_facts
  have hF1 := Lib.hid F1
  have hF2 := Lib.hid F2
  have hF3 := Lib.hid F3
  have hF4 := Lib.hid F4
  have hF5 := Lib.hid F5
  have hb0 := (Below.refl w.heap.size w).alloc (Nat.le_refl _) (.cells #[.int .i64 0] 3)
  have hs0 : (w.alloc (.cells #[.int .i64 0] 3)).heap.size = w.heap.size + 1 := by simp
  have hK := Blk.new w 3 #[.int .i64 0]
  have hR : InstRd (w.alloc (.cells #[.int .i64 0] 3)) (w.alloc (.cells #[.int .i64 0] 3)).heap.size x18 (some ⟨w.heap.size, 0, none⟩) 1 none 0 none 0 none 0 :=
    ⟨fun _ => ⟨_, rfl, by rw [hs0]; show w.heap.size < _; omega, fun j u hj => by rw [Addr.add_lit, Nat.zero_add]; exact (hK.cell j).trans (by simpa [x18] using hj)⟩, Rd.none_, fun k hk => absurd hk (by simp [x18]), fun k hk => absurd hk (by simp [x18]), by decide, by decide, by decide, by decide, by decide, by decide, by decide, by decide, by decide, by decide, by decide, by decide, by decide⟩
  have HR := Lib.hid hR
  have HB0 := Lib.hid hb0
  clear F1 F2 F3 F4 F5 hb0 hs0 hK hR
  go_enter Try.func67, Try.ntmps67
  go_wp2_with fail
  generalize w.alloc (.cells #[.int .i64 0] 3) = W0 at HR HB0 ⊢
  refine (imageBytes_any x18 (some ⟨w.heap.size, 0, none⟩) 1 none 0 none 0 none 0 W0 x18_wf HR.out).mono ?_
  rintro e w1 ⟨v1, rfl, hg1, hb1⟩
  rw [hF1.out]
  generalize iS x18 = L at hF2 hF3 hF4 hF5 F6 F7 hg1
  obtain ⟨A1, c1, rfl, hc1, hm1, hr1⟩ := hg1.shape
  have HG1 := Lib.hid hg1
  have hb01 := Lib.hid (HB0.out.trans (hb1.mono HB0.out.size))
  have HB0' : Hid (w.heap.size ≤ W0.heap.size ∧ W0.heap.size ≤ w1.heap.size ∧ ∀ k, (Value.slice A1 L.length c1).ownBlock = some k → k < w1.heap.size) := Lib.hid ⟨HB0.out.size, hb1.size, hg1.row.lt⟩
  clear hb1 HB0 HR hg1
  go_wp2_with fail
  refine (imageRead_any A1 L _ c1 rfl w1 hr1 hc1 ⟨by omega, hm1⟩).mono ?_
  rintro e w2 ⟨V, rfl, hV, hb2⟩
  rw [hF2.out]
  obtain ⟨u1, u2, u3, u4, es, rfl, hu1, hu2, hu3, _, hu4⟩ := hV.shape
  obtain ⟨B1, d1, rfl, -, -, -⟩ := is_shape hu1
  obtain ⟨B2, d2, rfl, -, -, -⟩ := is_shape hu2
  obtain ⟨B3, d3, rfl, -, -, -⟩ := own_row_shape hu3.own
  obtain ⟨B4, d4, rfl, -, -, -⟩ := own_row_shape hu4
  rw [hF3.out, hF4.out]
  generalize (rX L).nums.length = m2
  generalize (rX L).tms.length = m4
  generalize es.length = m3
  have hs12 : w1.heap.size ≤ w2.heap.size := hb2.size
  have hb02 := hb01.out.trans (hb2.mono hb01.out.size)
  have hg2 := HG1.out.below hb2 (Nat.le_refl _)
  have hbY : Below w2.heap.size w2 (w2.alloc (.cells #[.slice B1 1 d1, .slice B2 m2 d2, .slice B3 m3 d3, .slice B4 m4 d4, .int .i64 3] 87)) := (Below.refl _ w2).alloc (Nat.le_refl _) _
  have hKY := Blk.new w2 87 #[.slice B1 1 d1, .slice B2 m2 d2, .slice B3 m3 d3, .slice B4 m4 d4, .int .i64 3]
  have hsY : (w2.alloc (.cells #[.slice B1 1 d1, .slice B2 m2 d2, .slice B3 m3 d3, .slice B4 m4 d4, .int .i64 3] 87)).heap.size = w2.heap.size + 1 := by simp
  have hb03 := hb02.trans (hbY.mono hb02.size)
  have hg3 := hg2.below hbY (Nat.le_refl _)
  have hs02 := hb02.size
  have hs01 := HB0'.out
  clear hu1 hu2 hu3 hu4 hV hb2 hb01 hr1 HG1 hg2 hbY hb02
  go_upto_region 3 with fail
  have hszz := hsY
  generalize w2.alloc (.cells #[.slice B1 1 d1, .slice B2 m2 d2, .slice B3 m3 d3, .slice B4 m4 d4, .int .i64 3] 87) = w3 at hKY hb03 hg3 hszz hsY ⊢
  clear hsY
  have hgy : w2.heap.size < w3.heap.size := by omega
  clear hszz
  have hbZ : Below w3.heap.size w3 (w3.alloc (.cells #[.int .u8 0] 5)) := (Below.refl _ w3).alloc (Nat.le_refl _) _
  have HKZ := Lib.hid (Blk.new w3 5 #[.int .u8 0])
  have HGZ := Lib.hid (hg3.below hbZ (Nat.le_refl _))
  have HBZ := Lib.hid (hb03.trans (hbZ.mono hb03.size))
  have HSZ : Hid (W0.heap.size ≤ (w3.alloc (.cells #[.int .u8 0] 5)).heap.size) := Lib.hid (Nat.le_trans (by omega) hbZ.size)
  have HKYZ := Lib.hid (hKY.below hbZ hgy)
  have hW0 : w.heap.size ≤ W0.heap.size := HB0'.out.1
  clear hbZ hg3 hb03 hKY
  go_wp2_with (at_builtin; refine wpList_append_got rfl (.tmp 19) (.tmp 20) rfl W0.heap.size _ L rfl HGZ.out F6 (by omega) 0 ⟨w3.heap.size, 0, none⟩ rfl (by rw [Addr.add_lit, Nat.zero_add]; exact HKZ.out.cell 0) HSZ.out ?_; intro A5 c5 w5 q1 q2 q3 q4 q5)
  have HB5 := Lib.hid (HBZ.out.trans (q4.mono hW0))
  have hs5 := q4.size
  have HK5 := Lib.hid (HKYZ.out.grown q5 (fun e => by have := HB0'.out.2.2 _ e.symm; omega))
  have hgy5 : w2.heap.size < w5.heap.size := HK5.out.lt
  clear q4 q5 HBZ HSZ HKYZ HGZ HKZ
  go_wp2_with fail
  refine (imageRead_any A5 (L ++ [0]) _ c5 (by simp) w5 q3 (by simpa using q1) ⟨by simp; omega, q2⟩).mono ?_
  rintro e w6 ⟨V, rfl, hV, hb6⟩
  rw [hF5.out]
  obtain ⟨u1, u2, u3, u4, es6, rfl, hu1, hu2, hu3, _, hu4⟩ := hV.shape
  obtain ⟨E1, e1, rfl, -, -, -⟩ := is_shape hu1
  obtain ⟨E2, e2, rfl, -, -, -⟩ := is_shape hu2
  obtain ⟨E3, e3, rfl, -, -, -⟩ := own_row_shape hu3.own
  obtain ⟨E4, e4, rfl, -, -, -⟩ := own_row_shape hu4
  have hb06 := HB5.out.trans (hb6.mono (by omega))
  have hK6 := HK5.out.below hb6 hgy5
  generalize (rX (L ++ [0])).act.length = k1
  generalize (rX (L ++ [0])).nums.length = k2
  generalize (rX (L ++ [0])).tms.length = k4
  generalize (rX (L ++ [0])).now = k5
  generalize es6.length = k3
  have HB7 := Lib.hid (hb06.alloc hb06.size (.cells #[.slice E1 k1 e1, .slice E2 k2 e2, .slice E3 k3 e3, .slice E4 k4 e4, .int .i64 k5] 87))
  have hK7 := hK6.alloc (.cells #[.slice E1 k1 e1, .slice E2 k2 e2, .slice E3 k3 e3, .slice E4 k4 e4, .int .i64 k5] 87)
  have hs6 := hb6.size
  obtain ⟨⟨y0, _⟩, ⟨y1, _⟩, ⟨y2, _⟩, ⟨y3, _⟩, ⟨y4, _⟩⟩ := blk5_fr hK7
  clear hu1 hu2 hu3 hu4 hV hb6 hK6 hb06 q3
  go_wp2
  go_ret
  exact ⟨rfl, HB7.out⟩
end Go.Proofs.Ytaadbklimfngiaa
