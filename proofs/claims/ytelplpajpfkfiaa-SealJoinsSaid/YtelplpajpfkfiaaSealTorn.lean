/- Of pieces cut off those that are whole are told: the walk of the statement. No condition. -/
import Derived.Test.YtelplpajpfkfiaaSealL
import Derived.Test.YtelplpajpfkfiaaOpenR
import Derived.Test.YtelplpajpfkfiaaTornPlain
import Derived.Deep.DeepCutAuto
import Derived.Deep.CutBlock
import Derived.BigQuiet
set_option linter.unusedVariables false
namespace Go.Proofs.Ytelplpajpfkfiaa
open Go.RowKit Oct

/-- The contents of the first k rows. -/
def conts (ps : List Row) (k : Nat) : List (List UInt8) := (ps.take k).map Row.l
theorem conts_succ (ps : List Row) (k : Nat) (h : k < ps.length) : conts ps (k + 1) = conts ps k ++ [ps[k].l] := by
  unfold conts
  rw [List.take_succ_eq_append_getElem h, List.map_append]
  rfl
theorem conts_len (ps : List Row) (k : Nat) (h : k ≤ ps.length) : (conts ps k).length = k := by
  unfold conts
  simp
  omega
theorem conts_get (ps : List Row) (m k : Nat) (h : k < m) (hm : m ≤ ps.length) : (conts ps m)[k]'(by rw [conts_len ps m hm]; exact h) = (ps[k]'(by omega)).l := by
  unfold conts
  simp
theorem conts_take (ps : List Row) (m k : Nat) (h : k ≤ m) : (conts ps m).take k = conts ps k := by
  unfold conts
  rw [← List.map_take, List.take_take, Nat.min_eq_left h]
/-- Where the first k + 1 pieces end. -/
def endsOf (ps : List Row) (k : Nat) : List Value := (List.range k).map fun i => .int .i64 ((cat (conts ps (i + 1))).length : Nat)
theorem endsOf_succ (ps : List Row) (k : Nat) : endsOf ps (k + 1) = endsOf ps k ++ [.int .i64 ((cat (conts ps (k + 1))).length : Nat)] := by
  unfold endsOf
  rw [List.range_succ, List.map_append]
  rfl
theorem endsOf_len (ps : List Row) (k : Nat) : (endsOf ps k).length = k := by simp [endsOf]

/-- Where the first j pieces end. -/
def endAt (ps : List Row) (j : Nat) : Nat := (cat (conts ps j)).length
theorem endAt_zero (ps : List Row) : endAt ps 0 = 0 := by simp [endAt, conts, cat]
theorem endAt_mono (ps : List Row) {i j : Nat} (h : i ≤ j) : endAt ps i ≤ endAt ps j := by
  unfold endAt
  rw [← conts_take ps j i h]
  have := cat_mono (conts ps j) (i := i) (j := (conts ps j).length + j) (by omega)
  rwa [List.take_of_length_le (by omega : (conts ps j).length ≤ (conts ps j).length + j)] at this
theorem endsOf_get (ps : List Row) (m k : Nat) (h : k < m) : (endsOf ps m)[k]'(by rw [endsOf_len]; exact h) = .int .i64 (endAt ps (k + 1) : Nat) := by simp [endsOf, endAt]

/-- What has been built behind k rows. -/
structure Built (w : World) (base : Nat) (ps : List Row) (k : Nat) (vb ve : Value) : Prop where
  b : Bs w base vb (cat (conts ps k))
  e : Own w base 3 ve (endsOf ps k)
  off : ∀ g, vb.ownBlock = some g → ve.ownBlock ≠ some g
  small : ∀ p ∈ conts ps k, p.length ≤ 1048576

theorem closeS_a : closeE [97] = 0 ∧ (closeS [97]).length = 6 := by decide +kernel

set_option maxHeartbeats 4000000 in
set_option maxRecDepth 100000 in
theorem sealTorn_walk (w : World) (A : Option Addr) (ps : List Row) (cp : Nat) (hps : InRows w A ps cp) (cut : Int) (hcut : -9223372036854775808 ≤ cut ∧ cut ≤ 9223372036854775807) :
    Calls Try.prog 14 #[.slice A ps.length cp, .int .i64 cut] w fun e w' => e = .returned (.bool true) ∧ Below w.heap.size w w' := by
  have hpc := hps.le
  have hpk := hps.cap
  have HCUT := Lib.hid hcut
  clear hcut
  go_enter Try.func14, Try.ntmps14
  go_upto_block 0 with fail
  go_cut [5, 6] (fun vb ve wx => ∃ m : Nat, m ≤ ps.length ∧ m ≤ 20 ∧ Built wx w.heap.size ps m vb ve ∧ Below w.heap.size w wx)
  case first =>
    go_wp2_with fail
    go_loopw [7, 5, 6, 8, 9] (fun i vb ve _ _ wr => ∃ k : Nat, k ≤ ps.length ∧ k ≤ 20 ∧ i = .int .i64 k ∧ Hid (Built wr w.heap.size ps k vb ve) ∧ Below w.heap.size w wr) (fun i _ _ _ _ _ => ps.length - (intOf i).toNat)
    case atStart => exact ⟨0, by omega, by omega, rfl, Lib.hid ⟨Own.nil _ _ _, Own.nil _ _ _, fun g h => by simp [Value.ownBlock] at h, fun p hp => by simp [conts] at hp⟩, Below.refl _ _⟩
    case round =>
      obtain ⟨k, hk, hk2, rfl, hbt, hbw⟩ := hrel
      by_cases hlt : k < ps.length ∧ k < 20
      · obtain ⟨hlt, hlt2⟩ := hlt
        obtain ⟨ad, rfl, hbk, hcell⟩ := rd_at (hps.rd.below hbw) hlt
        have hrow := hps.rows _ (List.getElem_mem hlt)
        have hft := hps.fit _ (List.getElem_mem hlt)
        have hcs := conts_succ ps k hlt
        have hct : cat (conts ps (k + 1)) = cat (conts ps k) ++ piece ps[k].l := by rw [hcs, cat_append]; simp [cat]
        obtain ⟨a, l, c, hr⟩ : ∃ a l c', ps[k] = Row.mk a l c' := ⟨_, _, _, rfl⟩
        rw [hr] at hcell hrow hft hcs hct
        have hcell' : wr.cell? (ad.add k) = some (.slice a l.length c) := hcell
        obtain ⟨hf1, hf2, hf3⟩ : l.length ≤ 140737488351232 ∧ l.length ≤ c ∧ c ≤ 140737488351232 := hft
        have hrl : Rd wr wr.heap.size a (cells l) := (hrow.1.below hbw).more hbw.size
        have hkI : (k : Int) < ps.length := by omega
        have HCS : Hid (conts ps (k + 1) = conts ps k ++ [l]) := Lib.hid hcs
        have HCT : Hid (cat (conts ps (k + 1)) = cat (conts ps k) ++ piece l) := Lib.hid hct
        clear hcell hrow hr hcs hct
        go_wp2_with fail
        refine (close_any a l _ c rfl wr hrl (by omega)).mono ?_
        rintro e w1 ⟨v1, rfl, hg1, hb1⟩
        have hb11 := hbw.trans (hb1.mono hbw.size)
        have hcell1 : w1.cell? (ad.add k) = some (.slice a l.length c) := (hb1.cell (p := ad.add k) (by rw [block_of_add]; have := hbw.size; omega)).trans hcell'
        obtain ⟨A1, c1, rfl, hc1, hm1, hr1⟩ := hg1.shape
        rcases closeE_cases l with ⟨hl2, he, hpe⟩ | ⟨hl2, he, hpe, hlo, hhi⟩
        · rw [he]
          rw [hpe] at hc1 hr1 ⊢
          clear he hpe hg1 hr1
          go_wp2
          go_ret
          exact ⟨ret_bool (decide_eq_true (by omega)), hb11⟩
        · rw [he]
          rw [hpe] at hc1 hr1 hlo hhi ⊢
          obtain ⟨P, hP⟩ : ∃ P, P = piece l := ⟨_, rfl⟩
          rw [← hP] at hc1 hr1 hlo hhi HCT ⊢
          have hov := hbt.out.b.below hb1 (Nat.le_refl _)
          have hoe := hbt.out.e.below hb1 (Nat.le_refl _)
          have hoff := hbt.out.off
          have hcl := cat_len (conts ps k) hbt.out.small
          rw [conts_len ps k hk] at hcl
          obtain ⟨X, hX⟩ : ∃ X, X = cat (conts ps k) := ⟨_, rfl⟩
          rw [← hX] at hov hcl HCT
          have HOFF := Lib.hid hoff
          have HOE := Lib.hid hoe
          clear he hpe hg1 hP hX hrl hoff hoe
          have hx20 : (k + 1) * 1048590 ≤ 20971800 := by omega
          have HSM := Lib.hid hbt.out.small
          obtain ⟨Ab, cbb, hvb, _⟩ := bs_shape hov
          subst hvb
          go_upto_region 10 with (at_builtin; refine wpList_append_any rfl (.tmp 60) (.tmp 61) 22 rfl w.heap.size 5 (.int .u8 0) 1 Try.underlying22 info_u8 rfl _ (cells X) rfl hov _ A1 P.length c1 _ rfl (cells_length _).symm hr1 (bytes_one _) (by rw [cells_length]; unfold maxLen; omega) (by rw [cells_length]; omega) hb11.size ?_; intro v2 w2 hov2 hg2 hf2)
          rw [← cells_append, ← HCT.out] at hov2
          have hov2' : Bs w2 w.heap.size v2 (cat (conts ps (k + 1))) := hov2
          have hb12 := hb11.grown hg2 hb11.size (fun g hg => (hov.lt g hg).1)
          have hoe2 : Own w2 w.heap.size 3 u6 (endsOf ps k) := HOE.out.kept hg2 (by
            cases hq : u6.ownBlock with
            | none => exact .inl rfl
            | some g => exact .inr fun e => HOFF.out g e.symm hq)
          have hoff2 : ∀ g, v2.ownBlock = some g → u6.ownBlock ≠ some g := by
            intro g h1 h2
            rcases hf2 with hf | ⟨q, hf, hq⟩
            · exact HOFF.out g (hf.symm.trans h1) h2
            · have := (HOE.out.lt g h2).2
              rw [hf] at h1
              injection h1 with h1
              omega
          have HCL : Hid ((cat (conts ps (k + 1))).length = X.length + P.length) := Lib.hid (by rw [HCT.out, List.length_append])
          obtain ⟨A3, c3, hv3, hc3, hm3, _⟩ := bs_shape hov2'
          subst hv3
          have HOV := Lib.hid hov2'
          have HOF := Lib.hid hoff2
          have HO6 := Lib.hid hoe2
          obtain ⟨N, hN⟩ : ∃ N, N = (cat (conts ps (k + 1))).length := ⟨_, rfl⟩
          rw [← hN] at hc3 ⊢
          have HN := Lib.hid hN
          clear hov hov2 hov2' hg2 hf2 hr1 hb11 hoff2 hoe2 hN HOFF HOE hcell1 hcell'
          have hel : (endsOf ps k).length ≤ 20 := by rw [endsOf_len]; omega
          obtain ⟨A6, c6, hv6, _⟩ := Own.shape HO6.out
          go_wp2_with (at_builtin; refine wpList_push2 (w := w2) rfl (.tmp 63) (.tmp 66) 41 rfl w.heap.size 3 (.int .i64 0) 8 Try.underlying41 info_int rfl u6 (endsOf ps k) _ rfl rfl HO6.out rfl rfl (by omega) (by omega) hb12.size ?_; intro v4 w4 hov4 hg4 hf4)
          have hb14 := hb12.grown hg4 hb12.size (fun g hg => (HO6.out.lt g hg).1)
          have hbt4 : Built w4 w.heap.size ps (k + 1) (.slice A3 N c3) v4 := by
            refine ⟨?_, ?_, ?_, ?_⟩
            · have h := HOV.out.kept hg4 (by
                cases hq : Value.ownBlock (.slice A3 N c3) with
                | none => exact .inl (by rw [← HN.out]; exact hq)
                | some g => exact .inr fun e => HOF.out g (by rw [← HN.out]; exact hq) (by rw [← hq, HN.out, e]))
              rw [← HN.out] at h
              exact h
            · rw [endsOf_succ, ← HN.out]
              exact hov4
            · intro g h1 h2
              have h1' : Value.ownBlock (.slice A3 (cat (conts ps (k + 1))).length c3) = some g := by rw [← HN.out]; exact h1
              rcases hf4 with hf | ⟨q, hf, hq⟩
              · exact HOF.out g h1' (hf.symm.trans h2)
              · have := (HOV.out.lt g h1').2
                rw [hf] at h2
                injection h2 with h2
                omega
            · rw [HCS.out]
              intro p hp
              rcases List.mem_append.1 hp with hp | hp
              · exact HSM.out p hp
              · obtain rfl := List.mem_singleton.1 hp
                omega
          exact ⟨⟨k + 1, by omega, by omega, by go_num, Lib.hid hbt4, hb14⟩, by simp [intOf]; omega⟩
      · have hk20 : ps.length ≤ k ∨ 20 ≤ k := by omega
        by_cases hlt2 : k < ps.length
        · have hk20 : ¬ k < 20 := by omega
          go_wp2_with fail
          go_meet
          exact ⟨k, hk, hk2, hbt.out, hbw⟩
        · go_wp2_with fail
          go_meet
          exact ⟨k, hk, hk2, hbt.out, hbw⟩
  case rest =>
    obtain ⟨m, hm, hm20, hbt, hbw⟩ := hcut
    obtain ⟨hob, hoe, _, hsm⟩ := hbt
    have hcl := cat_len (conts ps m) hsm
    rw [conts_len ps m hm] at hcl
    obtain ⟨X, hX⟩ : ∃ X, X = cat (conts ps m) := ⟨_, rfl⟩
    rw [← hX] at hob hcl
    have hXl : X.length ≤ 20971800 := by omega
    obtain ⟨Ab, cb, hvb, hcb, hmb, hrb⟩ := bs_shape hob
    obtain ⟨Ae, ce, hve, hce, hme, hre⟩ := Own.shape hoe
    rw [endsOf_len] at hve hce
    subst hvb
    subst hve
    have HX := Lib.hid hX
    have HSM := Lib.hid hsm
    have HRB := Lib.hid hrb
    have HRE := Lib.hid hre
    clear hX hsm hrb hre hob hoe hcl
    go_upto_region 11 with fail
    go_cut [75] (fun s75 wx => s75 = .bool (decide (cut < 0 ∨ X.length < cut)) ∧ wx = wc)
    case first =>
      have hC := HCUT.out
      by_cases h2 : cut < 0
      · have hd : decide (cut < 0 ∨ (X.length : Int) < cut) = true := decide_eq_true (.inl h2)
        have HD := Lib.hid hd
        clear hd
        go_wp2_with fail
        go_meet
        exact ⟨by rw [HD.out], rfl⟩
      · have hd : decide (cut < 0 ∨ (X.length : Int) < cut) = decide ((X.length : Int) < cut) := by simp [h2]
        have HD := Lib.hid hd
        clear hd
        go_wp2_with fail
        go_meet
        exact ⟨by rw [HD.out], rfl⟩
    case rest =>
      obtain ⟨rfl, rfl⟩ := hcut
      go_upto_if 75 with fail
      go_cut [1] (fun s1 wx => ∃ n : Nat, n ≤ X.length ∧ s1 = .int .i64 n ∧ wx = wc)
      case first =>
        by_cases hr : cut < 0 ∨ (X.length : Int) < cut
        · rw [decide_eq_true hr]
          clear hr
          go_wp2_with fail
          go_meet
          exact ⟨X.length, Nat.le_refl _, rfl, rfl⟩
        · rw [decide_eq_false hr]
          have hc0 : 0 ≤ cut := by omega
          obtain ⟨n, rfl⟩ := Int.eq_ofNat_of_zero_le hc0
          have hn : n ≤ X.length := by omega
          clear hr hc0
          go_wp2_with fail
          go_meet
          exact ⟨n, hn, rfl, rfl⟩
      case rest =>
        obtain ⟨n, hn, rfl, rfl⟩ := hcut
        have hE0 := endAt_zero ps
        have HE0 := Lib.hid hE0
        clear hE0
        go_wp2_with fail
        go_loop [12, 10, 11] (fun i wh en => ∃ k W : Nat, k ≤ m ∧ W ≤ k ∧ i = .int .i64 k ∧ wh = .int .i64 W ∧ en = .int .i64 (endAt ps W : Nat) ∧ Hid (endAt ps W ≤ n ∧ (W = k ∨ n < endAt ps (W + 1)))) (fun i _ _ => m - (intOf i).toNat)
        case atStart => exact ⟨0, 0, by omega, by omega, rfl, rfl, by rw [HE0.out]; rfl, Lib.hid ⟨by rw [HE0.out]; omega, .inl rfl⟩⟩
        case round =>
          obtain ⟨k, W, hk, hW, rfl, rfl, rfl, hst⟩ := hrel
          by_cases hlt : k < m
          · obtain ⟨ad, rfl, hbk, hcell⟩ := HRE.out.at_ (k := k) (by rw [endsOf_len]; exact hlt)
            rw [endsOf_get ps m k hlt] at hcell
            have hkI : (k : Int) < m := by omega
            have hm1 : endAt ps (W + 1) ≤ endAt ps (k + 1) := endAt_mono ps (by omega)
            have hs := hst.out
            by_cases hle : endAt ps (k + 1) ≤ n
            · have hWk : W = k := by omega
              have hnew : Hid (endAt ps (k + 1) ≤ n ∧ (k + 1 = k + 1 ∨ n < endAt ps (k + 1 + 1))) := Lib.hid ⟨hle, .inl rfl⟩
              have hleI : ((endAt ps (k + 1) : Nat) : Int) ≤ n := by omega
              clear hs hst hm1 hW hWk
              go_wp2_with fail
              exact ⟨⟨k + 1, k + 1, by omega, by omega, by go_num, by go_num, rfl, hnew⟩, by simp [intOf]; omega⟩
            · have hnw : W = k + 1 ∨ n < endAt ps (W + 1) := by
                rcases hs.2 with h | h
                · subst h
                  exact .inr (by omega)
                · exact .inr h
              have hnew : Hid (endAt ps W ≤ n ∧ (W = k + 1 ∨ n < endAt ps (W + 1))) := Lib.hid ⟨hs.1, hnw⟩
              clear hnw
              have hleI : ¬ ((endAt ps (k + 1) : Nat) : Int) ≤ n := by omega
              clear hs hst hm1
              go_wp2_with fail
              exact ⟨⟨k + 1, W, by omega, by omega, by go_num, rfl, rfl, hnew⟩, by simp [intOf]; omega⟩
          · obtain rfl : k = m := by omega
            have hT : ∃ e, rowsS (X.take n) = (conts ps W, endAt ps W, e) ∧ (e = 0 ↔ endAt ps W = n) := by
              have hs := hst.out
              have hcm := conts_len ps k hm
              have e1 := conts_take ps k W hW
              have h := rows_torn (conts ps k) HSM.out n W (by rw [← HX.out]; exact hn) (by rw [hcm]; exact hW) (by rw [e1]; exact hs.1) (by
                rcases hs.2 with h | h
                · exact .inl (by rw [hcm]; exact h)
                · by_cases hWk : W = k
                  · exact .inl (by rw [hcm]; exact hWk)
                  · rw [conts_take ps k (W + 1) (by omega)]
                    exact .inr h)
              rw [e1, ← HX.out] at h
              exact h
            obtain ⟨E, hE1, hE2⟩ := hT
            have hWp : W ≤ ps.length := by omega
            have hcW := conts_len ps W hWp
            have htl : (X.take n).length = n := by rw [List.length_take]; omega
            have hrt : Rd wc wc.heap.size Ab (cells (X.take n)) := by simpa [cells, List.map_take] using HRB.out.take n
            have hcutr := fun W : World => run_cut_to (P := Try.prog) Try.underlying22 info_u8 Ab X.length cb n (by omega) (n : Int) rfl W
            have HE1 := Lib.hid hE1
            have HTL := Lib.hid htl.symm
            have HCW := Lib.hid hcW
            generalize hEA : endAt ps W = EA at hE2 HE1 ⊢
            clear hst hEA hE1 htl hcW
            go_wp2_with fail
            refine (rows_any Ab (X.take n) n cb HTL.out wc hrt (by rw [← HTL.out]; omega) ⟨by rw [← HTL.out]; omega, by omega⟩).mono ?_
            rintro e x2 ⟨vl, xs, rfl, hg2, hx2⟩
            rw [HE1.out] at hg2 ⊢
            have hbx2 := hbw.trans (hx2.mono hbw.size)
            obtain ⟨Al, cl, hvl, hcl, hml, hrl⟩ := Own.shape hg2.own
            have hnl : xs.length = W := by rw [hg2.len, HCW.out]
            have HG := Lib.hid hg2
            rw [hnl] at hvl
            subst hvl
            clear hx2 hrt hrl hg2 hnl hcl
            have hcase : ((E == 0) = true ∧ (((EA : Int) == (n : Int)) = true)) ∨ ((E == 0) = false ∧ (((EA : Int) == (n : Int)) = false)) := by
              by_cases h : E = 0
              · exact .inl ⟨by simp [h], by have := hE2.1 h; simp; omega⟩
              · exact .inr ⟨by simp [h], by have := fun h' => h (hE2.2 h'); simp; omega⟩
            clear hE2
            rcases hcase with ⟨e1, e2⟩ | ⟨e1, e2⟩
            all_goals
              go_wp2_with fail
              clear e1 e2
              go_loopw [16] (fun i wr => ∃ q : Nat, q ≤ W ∧ i = .int .i64 q ∧ Hid (GotRows wr wc.heap.size (.slice Al W cl) xs (conts ps W)) ∧ Below w.heap.size w wr) (fun i _ => W - (intOf i).toNat)
              case atStart => exact ⟨0, by omega, rfl, HG, hbx2⟩
              case round =>
                obtain ⟨q, hq, rfl, g2, hbr⟩ := hrel
                by_cases hlt : q < W
                · have hql : q < (conts ps W).length := by rw [HCW.out]; exact hlt
                  obtain ⟨ad, a1, e1, rfl, _, hcell, hrd, _⟩ := g2.out.at_ hql
                  rw [conts_get ps W q hlt hWp] at hcell hrd
                  have hqp : q < ps.length := by omega
                  obtain ⟨ad', rfl, _, hcell2⟩ := rd_at (hps.rd.below hbr) hqp
                  have hrow := hps.rows _ (List.getElem_mem hqp)
                  obtain ⟨a, l, c, hr⟩ : ∃ a l c', ps[q] = Row.mk a l c' := ⟨_, _, _, rfl⟩
                  rw [hr] at hcell hrd hcell2 hrow
                  have hcell' : wr.cell? (ad'.add q) = some (.slice a l.length c) := hcell2
                  have hcell1 : wr.cell? (ad.add q) = some (.slice a1 l.length e1) := hcell
                  have hrd1 : Rd wr wr.heap.size a1 (cells l) := hrd
                  have hrd2 : Rd wr w.heap.size a (cells l) := hrow.1.below hbr
                  have q1 := fun nq : Nat => str_of e1 (hrd1.drewN nq)
                  have q2 := fun nq : Nat => str_of c (hrd2.drewN nq)
                  have hkI : (q : Int) < W := by omega
                  have hkI2 : (q : Int) < ps.length := by omega
                  clear hrd hrd1 hrd2 hrow hr hcell hcell2
                  go_wp2_with fail
                  go_quiet (fail)
                  go_wp2_with fail
                  go_roundw
                  case rel => exact ⟨q + 1, by omega, by go_num, Lib.hid (g2.out.drewN _), below_drewN hbr _⟩
                  case measure => simp [intOf]; omega
                · obtain rfl : q = W := by omega
                  have kc := run_const
                  have q1 := rd_const wr [97] (1, 2)
                  go_wp2_with fail
                  refine (close_any (some ⟨wr.heap.size, 0, none⟩) [97] 1 1 rfl _ (q1.more (by simp)) (by simp)).mono ?_
                  rintro e x9 ⟨v9, rfl, hg9, hb9⟩
                  have hbr9 := (hbr.alloc hbr.size _).trans (hb9.mono (hbr.alloc hbr.size _).size)
                  rw [closeS_a.1]
                  obtain ⟨A9, c9, rfl, _⟩ := hg9.shape
                  rw [closeS_a.2]
                  clear hg9 hb9
                  go_wp2
                  go_ret
                  exact ⟨rfl, hbr9⟩
end Go.Proofs.Ytelplpajpfkfiaa
