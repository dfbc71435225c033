/- Rows behind rows: the walk of the statement. No condition. -/
import Derived.Test.YtelplpajpfkfiaaSealTorn
set_option linter.unusedVariables false
namespace Go.Proofs.Ytelplpajpfkfiaa
open Go.RowKit Oct

theorem map_take_succ (ps : List Row) (k : Nat) (h : k < ps.length) : (ps.take (k + 1)).map Row.val = (ps.take k).map Row.val ++ [ps[k].val] := by
  rw [List.take_succ_eq_append_getElem h, List.map_append]
  rfl
/-- Rows that lie among those that came in. -/
structure Among (w : World) (ps : List Row) : Prop where
  rows : RRd w w.heap.size ps
  fit : ∀ r ∈ ps, r.l.length ≤ 140737488351232 ∧ r.l.length ≤ r.c ∧ r.c ≤ 140737488351232
theorem Among.append {w : World} {ps qs : List Row} (h : Among w ps) (k : Among w qs) : Among w (ps ++ qs) := by
  refine ⟨fun r hr => ?_, fun r hr => ?_⟩
  · rcases List.mem_append.1 hr with hr | hr
    · exact h.rows r hr
    · exact k.rows r hr
  · rcases List.mem_append.1 hr with hr | hr
    · exact h.fit r hr
    · exact k.fit r hr
theorem Among.take {w : World} {A : Option Addr} {ps : List Row} {c : Nat} (h : InRows w A ps c) (k : Nat) : Among w (ps.take k) :=
  ⟨fun r hr => h.rows r (List.mem_of_mem_take hr), fun r hr => h.fit r (List.mem_of_mem_take hr)⟩

set_option maxHeartbeats 4000000 in
set_option maxRecDepth 100000 in
theorem sealJoins_walk (w : World) (A : Option Addr) (pa : List Row) (ca : Nat) (ha : InRows w A pa ca) (B : Option Addr) (pb : List Row) (cb : Nat) (hb : InRows w B pb cb) :
    Calls Try.prog 15 #[.slice A pa.length ca, .slice B pb.length cb] w fun e w' => e = .returned (.bool true) ∧ Below w.heap.size w w' := by
  have hac := ha.le
  have hak := ha.cap
  have hbc := hb.le
  have hbk := hb.cap
  go_enter Try.func15, Try.ntmps15
  go_upto_block 0 with fail
  go_cut [7] (fun v wx => ∃ ps : List Row, ps.length ≤ 12 ∧ Among w ps ∧ Own wx w.heap.size 22 v (ps.map Row.val) ∧ Below w.heap.size w wx)
  case first =>
    go_wp2_with fail
    go_loopw [8, 7] (fun i v wr => ∃ k : Nat, k ≤ pa.length ∧ k ≤ 12 ∧ i = .int .i64 k ∧ Hid (Own wr w.heap.size 22 v ((pa.take k).map Row.val)) ∧ Below w.heap.size w wr) (fun i _ _ => pa.length - (intOf i).toNat)
    case atStart => exact ⟨0, by omega, by omega, rfl, Lib.hid (Own.nil _ _ _), Below.refl _ _⟩
    case round =>
      obtain ⟨k, hk, hk2, rfl, hov, hbw⟩ := hrel
      by_cases hlt : k < pa.length ∧ k < 12
      · obtain ⟨hlt, hlt2⟩ := hlt
        obtain ⟨ad, rfl, hbk, hcell⟩ := rd_at (ha.rd.below hbw) hlt
        have hms := map_take_succ pa k hlt
        obtain ⟨a, l, c, hr⟩ : ∃ a l c', pa[k] = Row.mk a l c' := ⟨_, _, _, rfl⟩
        rw [hr] at hcell hms
        have hcell' : wr.cell? (ad.add k) = some (.slice a l.length c) := hcell
        have HMS : Hid ((pa.take (k + 1)).map Row.val = (pa.take k).map Row.val ++ [.slice a l.length c]) := Lib.hid hms
        have hkI : (k : Int) < pa.length := by omega
        have hxl : ((pa.take k).map Row.val).length ≤ 12 := by simp; omega
        obtain ⟨Av, cv, hv, _⟩ := Own.shape hov.out
        have HO := Lib.hid hov.out
        clear hcell hr hms
        generalize (pa.take k).map Row.val = xs at hxl HMS HO hv
        go_wp2_with (at_builtin; refine wpList_push2 (w := wr) rfl (.tmp 29) (.tmp 34) 34 rfl w.heap.size 22 (.slice none 0 0) 24 Try.underlying34 info_bytes rfl u7 xs _ rfl rfl HO.out rfl rfl (by omega) (by omega) hbw.size ?_; intro v4 w4 hov4 hg4 hf4)
        have hb4 := hbw.grown hg4 hbw.size (fun g hg => (HO.out.lt g hg).1)
        exact ⟨⟨k + 1, by omega, by omega, by go_num, Lib.hid (by rw [HMS.out]; exact hov4), hb4⟩, by simp [intOf]; omega⟩
      · by_cases hlt2 : k < pa.length
        · have hk20 : ¬ k < 12 := by omega
          go_wp2_with fail
          go_meet
          exact ⟨pa.take k, by rw [List.length_take]; omega, .take ha k, hov.out, hbw⟩
        · go_wp2_with fail
          go_meet
          exact ⟨pa.take k, by rw [List.length_take]; omega, .take ha k, hov.out, hbw⟩
  case rest =>
    obtain ⟨p1, hp1, hm1, hov1, hbw1⟩ := hcut
    go_upto_block 2 with fail
    go_cut [7] (fun v wx => ∃ ps : List Row, ps.length ≤ 24 ∧ Among w ps ∧ Own wx w.heap.size 22 v (ps.map Row.val) ∧ Below w.heap.size w wx)
    case first =>
      have HO1 := Lib.hid hov1
      clear hov1
      go_wp2_with fail
      go_loopw [9, 7] (fun i v wr => ∃ k : Nat, k ≤ pb.length ∧ k ≤ 12 ∧ i = .int .i64 k ∧ Hid (Own wr w.heap.size 22 v (p1.map Row.val ++ (pb.take k).map Row.val)) ∧ Below w.heap.size w wr) (fun i _ _ => pb.length - (intOf i).toNat)
      case atStart => exact ⟨0, by omega, by omega, rfl, Lib.hid (by simpa using HO1.out), hbw1⟩
      case round =>
        obtain ⟨k, hk, hk2, rfl, hov, hbw⟩ := hrel
        by_cases hlt : k < pb.length ∧ k < 12
        · obtain ⟨hlt, hlt2⟩ := hlt
          obtain ⟨ad, rfl, hbk, hcell⟩ := rd_at (hb.rd.below hbw) hlt
          have hms := map_take_succ pb k hlt
          obtain ⟨a, l, c, hr⟩ : ∃ a l c', pb[k] = Row.mk a l c' := ⟨_, _, _, rfl⟩
          rw [hr] at hcell hms
          have hcell' : wr.cell? (ad.add k) = some (.slice a l.length c) := hcell
          have HMS : Hid (p1.map Row.val ++ (pb.take (k + 1)).map Row.val = (p1.map Row.val ++ (pb.take k).map Row.val) ++ [.slice a l.length c]) := Lib.hid (by rw [hms, List.append_assoc]; rfl)
          have hkI : (k : Int) < pb.length := by omega
          have hxl : (p1.map Row.val ++ (pb.take k).map Row.val).length ≤ 24 := by simp; omega
          obtain ⟨Av, cv, hv, _⟩ := Own.shape hov.out
          have HO := Lib.hid hov.out
          clear hcell hr hms
          generalize p1.map Row.val ++ (pb.take k).map Row.val = xs at hxl HMS HO hv
          go_wp2_with (at_builtin; refine wpList_push2 (w := wr) rfl (.tmp 46) (.tmp 51) 34 rfl w.heap.size 22 (.slice none 0 0) 24 Try.underlying34 info_bytes rfl u7 xs _ rfl rfl HO.out rfl rfl (by omega) (by omega) hbw.size ?_; intro v4 w4 hov4 hg4 hf4)
          have hb4 := hbw.grown hg4 hbw.size (fun g hg => (HO.out.lt g hg).1)
          exact ⟨⟨k + 1, by omega, by omega, by go_num, Lib.hid (by rw [HMS.out]; exact hov4), hb4⟩, by simp [intOf]; omega⟩
        · by_cases hlt2 : k < pb.length
          · have hk20 : ¬ k < 12 := by omega
            go_wp2_with fail
            go_meet
            exact ⟨p1 ++ pb.take k, by rw [List.length_append, List.length_take]; omega, hm1.append (.take hb k), by simpa using hov.out, hbw⟩
          · go_wp2_with fail
            go_meet
            exact ⟨p1 ++ pb.take k, by rw [List.length_append, List.length_take]; omega, hm1.append (.take hb k), by simpa using hov.out, hbw⟩
    case rest =>
      obtain ⟨ps, hpl, hamong, hov, hbw⟩ := hcut
      clear hov1 hbw1 hm1
      obtain ⟨wo, hwo⟩ : ∃ wo : World, wo = wc := ⟨_, rfl⟩
      rw [← hwo] at hov hbw ⊢
      clear hwo
      obtain ⟨Av, cv, hv, hvc, hvm, hvr⟩ := Own.shape hov
      rw [List.length_map] at hv hvc
      subst hv
      have HVR := Lib.hid hvr
      clear hov hvr
      go_wp2_with fail
      go_loopw [10, 5, 6, 11, 12] (fun i vx n _ _ wr => ∃ k : Nat, k ≤ ps.length ∧ i = .int .i64 k ∧ n = .int .i64 ((cat (conts ps k)).length : Nat) ∧ Hid (Bs wr wo.heap.size vx (cat (conts ps k))) ∧ Hid (∀ p ∈ conts ps k, p.length ≤ 1048576) ∧ Below wo.heap.size wo wr) (fun i _ _ _ _ _ => ps.length - (intOf i).toNat)
      case atStart => exact ⟨0, by omega, rfl, rfl, Lib.hid (Own.nil _ _ _), Lib.hid (fun p hp => by simp [conts] at hp), Below.refl _ _⟩
      case round =>
        obtain ⟨k, hk, rfl, rfl, hox, hsm, hbr⟩ := hrel
        by_cases hlt : k < ps.length
        · obtain ⟨ad, rfl, hbk, hcell⟩ := rd_at (HVR.out.below hbr) hlt
          have hrow := hamong.rows _ (List.getElem_mem hlt)
          have hft := hamong.fit _ (List.getElem_mem hlt)
          have hcs := conts_succ ps k hlt
          have hct : cat (conts ps (k + 1)) = cat (conts ps k) ++ piece ps[k].l := by rw [hcs, cat_append]; simp [cat]
          obtain ⟨a, l, c, hr⟩ : ∃ a l c', ps[k] = Row.mk a l c' := ⟨_, _, _, rfl⟩
          rw [hr] at hcell hrow hft hcs hct
          have hcell' : wr.cell? (ad.add k) = some (.slice a l.length c) := hcell
          obtain ⟨hf1, hf2, hf3⟩ : l.length ≤ 140737488351232 ∧ l.length ≤ c ∧ c ≤ 140737488351232 := hft
          have hbwr := hbw.trans (hbr.mono hbw.size)
          have hrl : Rd wr wr.heap.size a (cells l) := (hrow.1.below hbwr).more hbwr.size
          have hkI : (k : Int) < ps.length := by omega
          have HCS : Hid (conts ps (k + 1) = conts ps k ++ [l]) := Lib.hid hcs
          have HCT : Hid (cat (conts ps (k + 1)) = cat (conts ps k) ++ piece l) := Lib.hid hct
          clear hcell hrow hr hcs hct
          go_wp2_with fail
          refine (close_any a l _ c rfl wr hrl (by omega)).mono ?_
          rintro e w1 ⟨v1, rfl, hg1, hb1⟩
          have hbr1 := hbr.trans (hb1.mono hbr.size)
          have hcell1 : w1.cell? (ad.add k) = some (.slice a l.length c) := (hb1.cell (p := ad.add k) (by rw [block_of_add]; have := hbr.size; omega)).trans hcell'
          obtain ⟨A1, c1, rfl, hc1, hm1, hr1⟩ := hg1.shape
          rcases closeE_cases l with ⟨hl2, he, hpe⟩ | ⟨hl2, he, hpe, hlo, hhi⟩
          · rw [he]
            rw [hpe] at hc1 hr1 ⊢
            clear he hpe hg1 hr1
            go_wp2
            go_ret
            exact ⟨ret_bool (decide_eq_true (by omega)), hbw.trans (hbr1.mono hbw.size)⟩
          · rw [he]
            rw [hpe] at hc1 hr1 hlo hhi ⊢
            obtain ⟨P, hP⟩ : ∃ P, P = piece l := ⟨_, rfl⟩
            rw [← hP] at hc1 hr1 hlo hhi HCT ⊢
            have hov := hox.out.below hb1 (Nat.le_refl _)
            have hcl := cat_len (conts ps k) hsm.out
            rw [conts_len ps k hk] at hcl
            obtain ⟨X, hX⟩ : ∃ X, X = cat (conts ps k) := ⟨_, rfl⟩
            rw [← hX] at hov hcl HCT ⊢
            have HCL : Hid ((X.length : Int) + P.length = ((cat (conts ps (k + 1))).length : Nat)) := Lib.hid (by rw [HCT.out, List.length_append]; omega)
            have hXl : X.length ≤ 25166160 := by omega
            obtain ⟨Ab, cbb, hvb, _⟩ := bs_shape hov
            subst hvb
            clear he hpe hg1 hP hX hrl hox hcl hcell'
            go_wp2_with (at_builtin; refine wpList_append_any rfl (.tmp 79) (.tmp 80) 22 rfl wo.heap.size 5 (.int .u8 0) 1 Try.underlying22 info_u8 rfl _ (cells X) rfl hov _ A1 P.length c1 _ rfl (cells_length _).symm hr1 (bytes_one _) (by rw [cells_length]; unfold maxLen; omega) (by rw [cells_length]; omega) hbr1.size ?_; intro v2 w2 hov2 hg2 hf2)
            rw [← cells_append, ← HCT.out] at hov2
            have hbr2 := hbr1.grown hg2 hbr1.size (fun g hg => (hov.lt g hg).1)
            have hsm2 : ∀ p ∈ conts ps (k + 1), p.length ≤ 1048576 := by
              rw [HCS.out]
              intro p hp
              rcases List.mem_append.1 hp with hp | hp
              · exact hsm.out p hp
              · obtain rfl := List.mem_singleton.1 hp
                omega
            exact ⟨⟨k + 1, by omega, by go_num, by rw [HCL.out], Lib.hid hov2, Lib.hid hsm2, hbr2⟩, by simp [intOf]; omega⟩
        · obtain rfl : k = ps.length := by omega
          have hcl := cat_len (conts ps ps.length) hsm.out
          have hcn := conts_len ps ps.length (Nat.le_refl _)
          rw [hcn] at hcl
          have hrows := rows_cat (conts ps ps.length) hsm.out
          obtain ⟨X, hX⟩ : ∃ X, X = cat (conts ps ps.length) := ⟨_, rfl⟩
          rw [← hX] at hrows hcl hox ⊢
          have hXl : X.length ≤ 25166160 := by omega
          obtain ⟨Ab, cbb, hvb, hcb, hmb, hrb⟩ := bs_shape hox.out
          subst hvb
          have HR := Lib.hid hrows
          have HCN := Lib.hid hcn
          have hbwr := hbw.trans (hbr.mono hbw.size)
          clear hX hrows hcn hox hsm hcl
          go_wp2_with fail
          refine (rows_any Ab X _ cbb rfl wr hrb hcb ⟨by omega, by omega⟩).mono ?_
          rintro e x2 ⟨vl, xs, rfl, hg2, hx2⟩
          rw [HR.out] at hg2 ⊢
          have hbx2 := hbwr.trans (hx2.mono hbwr.size)
          have hbo2 := hbr.trans (hx2.mono hbr.size)
          obtain ⟨Al, cl, hvl, hcl, hml, hrl⟩ := Own.shape hg2.own
          have hnl : xs.length = ps.length := by rw [hg2.len, HCN.out]
          have HG := Lib.hid hg2
          rw [hnl] at hvl
          subst hvl
          clear hx2 hrb hrl hg2 hnl hcl
          go_wp2_with fail
          refine (close_any none [] 0 0 rfl x2 (cells_nil ▸ Rd.none_) (by simp)).mono ?_
          rintro e x3 ⟨v9, rfl, hg9, hb9⟩
          have HG3 := Lib.hid (HG.out.below hb9 (Nat.le_refl _))
          have hbx3 := hbx2.trans (hb9.mono hbx2.size)
          have hbo3 := hbo2.trans (hb9.mono hbo2.size)
          rw [closeS_nil.1]
          obtain ⟨A9, c9, rfl, _⟩ := hg9.shape
          rw [closeS_nil.2]
          clear hg9 hb9 HG hbx2 hbo2 hbwr
          go_wp2_with fail
          go_loopw [18] (fun i wq => ∃ q : Nat, q ≤ ps.length ∧ i = .int .i64 q ∧ Hid (GotRows wq wr.heap.size (.slice Al ps.length cl) xs (conts ps ps.length)) ∧ Hid (Below wo.heap.size wo wq) ∧ Below w.heap.size w wq) (fun i _ => ps.length - (intOf i).toNat)
          case atStart => exact ⟨0, by omega, rfl, HG3, Lib.hid hbo3, hbx3⟩
          case round =>
            obtain ⟨q, hq, rfl, g2, hbo, hbq⟩ := hrel
            rename World => wz
            by_cases hlt : q < ps.length
            · have hql : q < (conts ps ps.length).length := by rw [HCN.out]; exact hlt
              obtain ⟨ad, a1, e1, rfl, _, hcell, hrd, _⟩ := g2.out.at_ hql
              rw [conts_get ps ps.length q hlt (Nat.le_refl _)] at hcell hrd
              obtain ⟨ad', rfl, _, hcell2⟩ := rd_at (HVR.out.below hbo.out) hlt
              have hrow := hamong.rows _ (List.getElem_mem hlt)
              obtain ⟨a, l, c, hr⟩ : ∃ a l c', ps[q] = Row.mk a l c' := ⟨_, _, _, rfl⟩
              rw [hr] at hcell hrd hcell2 hrow
              have hcell' : wz.cell? (ad'.add q) = some (.slice a l.length c) := hcell2
              have hcell1 : wz.cell? (ad.add q) = some (.slice a1 l.length e1) := hcell
              have hrd1 : Rd wz wz.heap.size a1 (cells l) := hrd
              have hrd2 : Rd wz w.heap.size a (cells l) := hrow.1.below hbq
              have q1 := fun nq : Nat => str_of e1 (hrd1.drewN nq)
              have q2 := fun nq : Nat => str_of c (hrd2.drewN nq)
              have hkI : (q : Int) < ps.length := by omega
              clear hrd hrd1 hrd2 hrow hr hcell hcell2
              go_wp2_with fail
              go_quiet (fail)
              go_wp2_with fail
              go_roundw
              case rel => exact ⟨q + 1, by omega, by go_num, Lib.hid (g2.out.drewN _), Lib.hid (below_drewN hbo.out _), below_drewN hbq _⟩
              case measure => simp [intOf]; omega
            · obtain rfl : q = ps.length := by omega
              go_wp2
              go_ret
              exact ⟨rfl, hbq⟩
end Go.Proofs.Ytelplpajpfkfiaa
