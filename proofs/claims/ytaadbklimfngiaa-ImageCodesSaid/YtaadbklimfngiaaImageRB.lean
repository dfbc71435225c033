/- The reference's bytes of an instance (pavaneref18.Bytes). Condition: the instance can be read, its numbers are 64 bits wide. -/
import Derived.Test.YtaadbklimfngiaaImageB
set_option linter.unusedVariables false
namespace Go.Proofs.Ytaadbklimfngiaa
open Go.RowKit Oct

theorem iBad {x : InstD} (h : instB x = true) : iS x = [] ∧ iE x = 2 := ⟨if_pos h, if_pos h⟩
theorem iBad_of {x : InstD} (h : badI x = true) : instB x = true := by simp [instB, h]
theorem instB_long {x : InstD} {L r : List UInt8} (h : 1048576 < L.length) (e : instL x = L ++ r) : instB x = true := by
  unfold instB
  rw [e, List.length_append]
  simp
  exact .inr (by omega)
theorem instL_split (x : InstD) (k : Nat) (hk : k < x.past.length) : ∃ r, instL x = (headL x ++ pastL (x.past.take k)) ++ enc (fold1 x.past[k].n) ++ r := by
  refine ⟨encZ x.past[k].z ++ (pastL (x.past.drop (k + 1)) ++ (enc x.tms.length ++ (timL x.tms ++ enc (fold1 x.now)))), ?_⟩
  have e : x.past = x.past.take k ++ (x.past[k] :: x.past.drop (k + 1)) := by rw [List.getElem_cons_drop, List.take_append_drop]
  have e2 : pastL x.past = pastL (x.past.take k) ++ (enc (fold1 x.past[k].n) ++ (encZ x.past[k].z ++ pastL (x.past.drop (k + 1)))) := by
    have h := congrArg pastL e
    rw [pastL_append] at h
    exact h
  unfold instL midL
  rw [e2]
  simp
theorem badI_past {x : InstD} {k : Nat} (hk : k < x.past.length) (h : longZ x.past[k].z = true) : badI x = true := by
  unfold badI
  have : x.past.any (fun p => longZ p.z) = true := List.any_eq_true.2 ⟨_, List.getElem_mem hk, h⟩
  rw [this]
  simp
theorem badI_ok {x : InstD} (h1 : ¬ 4096 < x.act.length) (h2 : ¬ 4096 < x.nums.length) (h3 : ¬ 4096 < x.past.length) (h4 : ¬ 4096 < x.tms.length) (h5 : ∀ p ∈ x.past, longZ p.z = false) : badI x = false := by
  unfold badI longZ
  have : x.past.any (fun p => decide (4096 < p.z.length)) = false := by
    rw [List.any_eq_false]
    intro p hp
    have := h5 p hp
    unfold longZ at this
    simpa using this
  simp [this, h1, h2, h3, h4]
theorem close_good {x : InstD} (h : badI x = false) : closeS (instL x) = iS x ∧ closeE (instL x) = iE x := by
  unfold closeS closeE iS iE instB
  rw [h]
  simp
theorem five_at' {w : World} {g : Nat} {t : TypeId} {a b c d e : Value} (h : Blk w g t #[a, b, c, d, e]) : w.cell? ⟨g, 0, none⟩ = some a ∧ w.cell? ⟨g, 1, none⟩ = some b ∧ w.cell? ⟨g, 2, none⟩ = some c ∧ w.cell? ⟨g, 3, none⟩ = some d ∧ w.cell? ⟨g, 4, none⟩ = some e := five_at h

set_option maxHeartbeats 4000000 in
set_option maxRecDepth 100000 in
theorem rimageBytes_any (x : InstD) (A1 : Option Addr) (c1 : Nat) (A2 : Option Addr) (c2 : Nat) (A3 : Option Addr) (c3 : Nat) (A4 : Option Addr) (c4 : Nat) (w : World) (hx : x.wf) (hR : InstRd w w.heap.size x A1 c1 A2 c2 A3 c3 A4 c4) :
    Calls Try.prog 71 #[instV x A1 c1 A2 c2 A3 c3 A4 c4] w fun e w' => ∃ v, e = .returned (.tuple #[v, .int .i64 (iE x)]) ∧ Got w' w.heap.size v (iS x) ∧ Below w.heap.size w w' := by
  unfold instV
  have hbA := (Below.refl w.heap.size w).alloc (Nat.le_refl _) (.cells #[.slice A1 x.act.length c1, .slice A2 x.nums.length c2, .slice A3 x.past.length c3, .slice A4 x.tms.length c4, .int .i64 x.now] 87)
  have hKA := Lib.hid (Blk.new w 87 #[.slice A1 x.act.length c1, .slice A2 x.nums.length c2, .slice A3 x.past.length c3, .slice A4 x.tms.length c4, .int .i64 x.now])
  have hs0 : w.heap.size + 1 ≤ (w.alloc (.cells #[.slice A1 x.act.length c1, .slice A2 x.nums.length c2, .slice A3 x.past.length c3, .slice A4 x.tms.length c4, .int .i64 x.now] 87)).heap.size := by simp
  have HB0 := Lib.hid hbA
  have HX := Lib.hid hx
  have HR := Lib.hid hR
  have hp1 : x.act.length ≤ 140737488351232 := by have := hR.r1; omega
  have hp2 : x.nums.length ≤ 140737488351232 := by have := hR.r2; omega
  have hp3 : x.past.length ≤ 140737488351232 := by have := hR.r3; omega
  have hp4 : x.tms.length ≤ 140737488351232 := by have := hR.r4; omega
  clear hbA hx hR
  go_enter Try.func71, Try.ntmps71
  go_upto_region 1 with fail
  generalize w.alloc (.cells #[.slice A1 x.act.length c1, .slice A2 x.nums.length c2, .slice A3 x.past.length c3, .slice A4 x.tms.length c4, .int .i64 x.now] 87) = W0 at hKA hs0 HB0 ⊢
  have HBOX : Hid (∀ W, Below (w.heap.size + 1) W0 W → (Blk W w.heap.size 87 #[.slice A1 x.act.length c1, .slice A2 x.nums.length c2, .slice A3 x.past.length c3, .slice A4 x.tms.length c4, .int .i64 x.now] ∧ InstRd W w.heap.size x A1 c1 A2 c2 A3 c3 A4 c4 ∧ w.heap.size + 1 ≤ W.heap.size ∧ Below w.heap.size w W)) := Lib.hid fun W hb => by
    have h1 := HB0.out.trans (hb.mono (Nat.le_succ _))
    exact ⟨hKA.out.below hb (Nat.lt_succ_self _), HR.out.below h1 (Nat.le_refl _), by have := hb.size; omega, h1⟩
  clear HB0 hKA HR
  obtain ⟨hbx, hri, _, _⟩ := HBOX.out W0 (Below.refl _ _)
  obtain ⟨b0, b1, b2, b3, b4⟩ := five_at hbx
  have hcall := Lib.hid (rints_tot A1 x.act x.act.length c1 rfl W0 (hri.act.more (by omega)) HX.out.act hp1)
  clear hbx hri
  go_wp2_with fail
  refine hcall.out.mono ?_
  clear hcall b0 b1 b2 b3 b4
  rintro e w1 ⟨v1, rfl, hv1, hb1⟩
  obtain ⟨B1, d1, rfl, -, -, -⟩ := bs_shape hv1
  have hs1 : W0.heap.size ≤ w1.heap.size := hb1.size
  have HB1 := Lib.hid (hb1.mono hs0)
  have HV1 := Lib.hid (Own.mono hv1 hs0)
  clear hb1 hv1
  obtain ⟨hbx, hri, _, _⟩ := HBOX.out w1 HB1.out
  obtain ⟨b0, b1, b2, b3, b4⟩ := five_at hbx
  have hcall := Lib.hid (rints_tot A2 x.nums x.nums.length c2 rfl w1 (hri.nums.more (by omega)) HX.out.nums hp2)
  clear hbx hri
  go_wp2_with fail
  refine hcall.out.mono ?_
  clear hcall b0 b1 b2 b3 b4
  rintro e w2 ⟨v2, rfl, hv2, hb2⟩
  obtain ⟨B2, d2, rfl, -, -, hr2⟩ := bs_shape hv2
  have hs2 : w1.heap.size ≤ w2.heap.size := hb2.size
  have HB2 := Lib.hid (HB1.out.trans (hb2.mono (by omega)))
  have HV2 : Hid (Bs w2 (w.heap.size + 1) _ _) := Lib.hid (Own.below HV1.out hb2 (Nat.le_refl _))
  have HR2 := Lib.hid hr2
  clear hb2 hv2 hr2 HB1 HV1
  obtain ⟨hbx, hri, hsw, hbw⟩ := HBOX.out w2 HB2.out
  obtain ⟨b0, b1, b2, b3, b4⟩ := five_at hbx
  have HBW := Lib.hid hbw
  clear hbx hri hbw
  by_cases h1 : 4096 < x.act.length
  · have he1 : errZ x.act = 2 := if_pos h1
    rw [he1]
    have HE := Lib.hid (iBad (iBad_of (show badI x = true from by simp [badI, longZ, h1])))
    clear h1 he1
    go_wp2
    go_ret2
    refine ⟨.slice none 0 0, ret2 rfl (show Value.int .i64 2 = Value.int .i64 (iE x) by rw [HE.out.2]), ?_, HBW.out⟩
    rw [HE.out.1]
    exact Got.of_own (Own.nil _ _ _)
  · have he1 : errZ x.act = 0 := if_neg h1
    rw [he1]
    by_cases h2 : 4096 < x.nums.length
    · have he2 : errZ x.nums = 2 := if_pos h2
      rw [he2]
      have HE := Lib.hid (iBad (iBad_of (show badI x = true from by simp [badI, longZ, h2])))
      clear h2 he2 he1 h1
      go_wp2
      go_ret2
      refine ⟨.slice none 0 0, ret2 rfl (show Value.int .i64 2 = Value.int .i64 (iE x) by rw [HE.out.2]), ?_, HBW.out⟩
      rw [HE.out.1]
      exact Got.of_own (Own.nil _ _ _)
    · have he2 : errZ x.nums = 0 := if_neg h2
      rw [he2]
      by_cases h3 : 4096 < x.past.length
      · have h3I : (4096 : Int) < x.past.length := by omega
        have HE := Lib.hid (iBad (iBad_of (show badI x = true from by simp [badI, longZ, h3])))
        clear h3 he2 he1 h1 h2
        go_wp2
        go_ret2
        refine ⟨.slice none 0 0, ret2 rfl (show Value.int .i64 2 = Value.int .i64 (iE x) by rw [HE.out.2]), ?_, HBW.out⟩
        rw [HE.out.1]
        exact Got.of_own (Own.nil _ _ _)
      · have h3I : ¬ (4096 : Int) < x.past.length := by omega
        by_cases h4 : 4096 < x.tms.length
        · have h4I : (4096 : Int) < x.tms.length := by omega
          have HE := Lib.hid (iBad (iBad_of (show badI x = true from by simp [badI, longZ, h4])))
          clear h4 h3 he2 he1 h1 h2
          go_wp2
          go_ret2
          refine ⟨.slice none 0 0, ret2 rfl (show Value.int .i64 2 = Value.int .i64 (iE x) by rw [HE.out.2]), ?_, HBW.out⟩
          rw [HE.out.1]
          exact Got.of_own (Own.nil _ _ _)
        · have h4I : ¬ (4096 : Int) < x.tms.length := by omega
          have HLEN := Lib.hid (And.intro h1 (And.intro h2 (And.intro h3 h4)))
          have hl1 : (encZ x.act).length ≤ 1000000 := encZ_small _ HX.out.act
          have hl2 : (encZ x.nums).length ≤ 1000000 := encZ_small _ HX.out.nums
          clear h1 h2 h3 h4 he1 he2
          go_upto_region 5 with fail
          clear h3I h4I

          clear b0 b1 b2 b3 b4
          go_upto_region 6 with (at_builtin; refine wpList_append_any rfl (.tmp 45) (.tmp 46) 22 rfl (w.heap.size + 1) 5 (.int .u8 0) 1 Try.underlying22 info_u8 rfl _ _ rfl HV2.out w2.heap.size B2 (encZ x.nums).length d2 _ rfl (cells_length _).symm HR2.out (bytes_oneCell _) (by rw [cells_length]; unfold maxLen; omega) (by rw [cells_length]; omega) (by omega) ?_; intro v3 w3 hov3 hg3 hf3; rw [← cells_append] at hov3; obtain ⟨L3, hL3⟩ : ∃ L, L = encZ x.act ++ encZ x.nums := ⟨_, rfl⟩; rw [← hL3] at hov3; have HL3 := Lib.hid hL3; clear hL3; obtain ⟨E3, e3, rfl, -, -, -⟩ := bs_shape hov3)
          have HB3 := Lib.hid (HB2.out.grown hg3 (by omega) (fun j hj => (HV2.out.lt j hj).1))
          have hs3 : w2.heap.size ≤ w3.heap.size := hg3.size
          have HG3 := Lib.hid ((Below.refl (w.heap.size + 1) w2).grown hg3 (by omega) (fun j hj => (HV2.out.lt j hj).1))
          have HV3 := Lib.hid hov3
          clear hov3 hg3 hf3
          clear HV2 HR2 HB2 HBW
          obtain ⟨hbx, hri, hsw, hbw⟩ := HBOX.out w3 HB3.out
          obtain ⟨b0, b1, b2, b3, b4⟩ := five_at hbx
          clear hbw
          have hcall := Lib.hid (ruint_tot (x.past.length : Int) (by omega) w3)
          have hei : Hid (encI (x.past.length : Int) = enc x.past.length ∧ errI (x.past.length : Int) = 0) := Lib.hid ⟨by unfold encI; rw [if_neg (by omega)]; rfl, if_neg (by omega)⟩
          clear hbx hri
          go_wp2_with fail
          refine hcall.out.mono ?_
          clear hcall b0 b1 b2 b3 b4
          rintro e w4 ⟨v4, rfl, hv4, hb4⟩
          rw [hei.out.1] at hv4
          have hen : (enc x.past.length).length ≤ 10 := enc_len _ (by omega)
          obtain ⟨E4, e4, rfl, -, -, hr4⟩ := bs_shape hv4
          have hs4 : w3.heap.size ≤ w4.heap.size := hb4.size
          have HB4 := Lib.hid (HB3.out.trans (hb4.mono (by omega)))
          have HV4 : Hid (Bs w4 (w.heap.size + 1) _ _) := Lib.hid (Own.below HV3.out hb4 (Nat.le_refl _))
          have HR4 := Lib.hid hr4
          have hl3 : L3.length ≤ 2000000 := by rw [HL3.out, List.length_append]; omega
          clear hb4 hv4 hr4 HB3 HV3
          go_upto_region 7 with fail
          go_upto_region 8 with (at_builtin; refine wpList_append_any rfl (.tmp 55) (.tmp 56) 22 rfl (w.heap.size + 1) 5 (.int .u8 0) 1 Try.underlying22 info_u8 rfl _ _ rfl HV4.out w4.heap.size E4 (enc x.past.length).length e4 _ rfl (cells_length _).symm HR4.out (bytes_oneCell _) (by rw [cells_length]; unfold maxLen; omega) (by rw [cells_length]; omega) (by omega) ?_; intro v5 w5 hov5 hg5 hf5; rw [← cells_append] at hov5; obtain ⟨L5, hL5⟩ : ∃ L, L = L3 ++ enc x.past.length := ⟨_, rfl⟩; rw [← hL5] at hov5; have HL5 := Lib.hid hL5; clear hL5; obtain ⟨E5, e5, rfl, -, -, -⟩ := bs_shape hov5)
          have HB5 := Lib.hid (HB4.out.grown hg5 (by omega) (fun j hj => (HV4.out.lt j hj).1))
          have hs5 : w4.heap.size ≤ w5.heap.size := hg5.size
          have HG5 := Lib.hid ((Below.refl (w.heap.size + 1) w4).grown hg5 (by omega) (fun j hj => (HV4.out.lt j hj).1))
          have HV5 := Lib.hid hov5
          clear hov5 hg5 hf5
          clear HV4 HR4 HB4
          have hhead : L5 = headL x := by rw [HL5.out, HL3.out]; unfold headL; rw [List.append_assoc]
          have hl5 : L5.length ≤ 2000010 := by rw [HL5.out, List.length_append]; omega
          subst hhead
          clear hl3 hen hl1 hl2
          go_wp2_with fail
          go_loopw [8, 11] (fun v n wr => ∃ (k : Nat), k ≤ x.past.length ∧ n = .int .i64 k ∧ Hid (Bs wr (w.heap.size + 1) v (headL x ++ pastL (x.past.take k))) ∧ Hid (Below (w.heap.size + 1) W0 wr) ∧ Hid (∀ j (hj : j < x.past.length), j < k → longZ x.past[j].z = false) ∧ (headL x ++ pastL (x.past.take k)).length ≤ 3000000) (fun _ n _ => x.past.length - (intOf n).toNat)
          case atStart => exact ⟨0, by omega, rfl, by simpa [pastL] using HV5, HB5, Lib.hid (fun j hj h => absurd h (by omega)), by simp [pastL]; omega⟩
          case round =>
            obtain ⟨k, hk, rfl, hV, hB, hN, hlen⟩ := hrel
            clear HV5 HB5
            obtain ⟨O, hO⟩ : ∃ O, O = headL x ++ pastL (x.past.take k) := ⟨_, rfl⟩
            rw [← hO] at hV hlen
            have HO := Lib.hid hO
            clear hO
            obtain ⟨E6, e6, rfl, -, -, -⟩ := bs_shape hV.out
            obtain ⟨hbx, hri, hsw, hbw⟩ := HBOX.out wr hB.out
            obtain ⟨b0, b1, b2, b3, b4⟩ := five_at hbx
            by_cases hlt : k < x.past.length
            · have hltI : (k : Int) < x.past.length := by omega
              obtain ⟨ad, rfl, had, o, A', c', hao, p0, p1, prd, ple, pcap⟩ := hri.past k hlt
              have hzl : x.past[k].z.length * 8 ≤ 140737488351232 := hri.rz _ (List.getElem_mem hlt)
              obtain ⟨pw1, pw2⟩ := HX.out.past _ (List.getElem_mem hlt)
              have HST := Lib.hid (pastL_step hlt)
              have HSP := Lib.hid (instL_split x k hlt)
              have HBP := Lib.hid (fun h => badI_past (x := x) hlt h)
              have HNX : Hid (longZ x.past[k].z = false → ∀ j (hj : j < x.past.length), j < k + 1 → longZ x.past[j].z = false) := Lib.hid fun h j hj hjk => by
                rcases Nat.lt_or_ge j k with h9 | h9
                · exact hN.out j hj h9
                · have : j = k := by omega
                  subst this; exact h
              generalize x.past[k] = q at p0 p1 prd ple hzl pw1 pw2 HST HSP HBP HNX
              have PW1 := Lib.hid pw1
              have PW2 := Lib.hid pw2
              have PRD := Lib.hid prd
              have hcall := Lib.hid (rint_any q.n pw1 wr)
              clear hbx hri pw1 pw2 prd hbw
              go_wp2_with fail
              refine hcall.out.mono ?_
              clear hcall
              rintro e w7 ⟨v7, rfl, hv7, hb7⟩
              obtain ⟨E7, e7, rfl, -, -, hr7⟩ := bs_shape hv7
              have hen : (enc (fold1 q.n)).length ≤ 10 := enc_len2 _ PW1.out
              have hs7 : wr.heap.size ≤ w7.heap.size := hb7.size
              have HB7 := Lib.hid (hB.out.trans (hb7.mono (by omega)))
              have HV7 : Hid (Bs w7 (w.heap.size + 1) _ _) := Lib.hid (Own.below hV.out hb7 (Nat.le_refl _))
              have HR7 := Lib.hid hr7
              have HP7 := Lib.hid (And.intro ((hb7.cell (p := ⟨ad.block, o + 1, none⟩) (by show ad.block < wr.heap.size; omega)).trans p1) (PRD.out.below (hb7.mono (by omega))))
              clear hb7 hv7 hr7 p0 p1 b0 b1 b2 b3 b4 hV hB
              go_upto_region 12 with (at_builtin; refine wpList_append_any rfl (.tmp 65) (.tmp 72) 22 rfl (w.heap.size + 1) 5 (.int .u8 0) 1 Try.underlying22 info_u8 rfl _ _ rfl HV7.out w7.heap.size E7 (enc (fold1 q.n)).length e7 _ rfl (cells_length _).symm HR7.out (bytes_oneCell _) (by rw [cells_length]; unfold maxLen; omega) (by rw [cells_length]; omega) (by omega) ?_; intro v8 w8 hov8 hg8 hf8; rw [← cells_append] at hov8; obtain ⟨L8, hL8⟩ : ∃ L, L = O ++ enc (fold1 q.n) := ⟨_, rfl⟩; rw [← hL8] at hov8; have HL8 := Lib.hid hL8; clear hL8; obtain ⟨E8, e8, rfl, -, -, -⟩ := bs_shape hov8)
              have HB8 := Lib.hid (HB7.out.grown hg8 (by omega) (fun j hj => (HV7.out.lt j hj).1))
              have hs8 : w7.heap.size ≤ w8.heap.size := hg8.size
              have HG8 := Lib.hid ((Below.refl (w.heap.size + 1) w7).grown hg8 (by omega) (fun j hj => (HV7.out.lt j hj).1))
              have HV8 := Lib.hid hov8
              clear hov8 hg8 hf8
              clear HV7 HR7
              obtain ⟨hbx, hri, hsw, hbw⟩ := HBOX.out w8 HB8.out
              obtain ⟨b0, b1, b2, b3, b4⟩ := five_at hbx
              have hm78 := HG8.out.mono (Nat.le_succ w.heap.size)
              have hq1 := (hm78.cell (p := ⟨ad.block, o + 1, none⟩) had).trans HP7.out.1
              have hcall := Lib.hid (rints_tot A' q.z q.z.length c' rfl w8 ((HP7.out.2.below hm78).more (by omega)) PW2.out (by omega))
              clear hbx hri hm78 HP7 HG8
              go_wp2_with fail
              refine hcall.out.mono ?_
              clear hcall b0 b1 b2 b3 b4 hq1
              rintro e w9 ⟨v9, rfl, hv9, hb9⟩
              obtain ⟨E9, e9, rfl, -, -, hr9⟩ := bs_shape hv9
              have hs9 : w8.heap.size ≤ w9.heap.size := hb9.size
              have HB9 := Lib.hid (HB8.out.trans (hb9.mono (by omega)))
              have HV9 : Hid (Bs w9 (w.heap.size + 1) _ _) := Lib.hid (Own.below HV8.out hb9 (Nat.le_refl _))
              have HR9 := Lib.hid hr9
              have HBW := Lib.hid (HBOX.out w9 HB9.out).2.2.2
              have hzs : (encZ q.z).length ≤ 1000000 := encZ_small _ PW2.out
              clear hb9 hv9 hr9 HB8 HV8
              by_cases hz : 4096 < q.z.length
              · have he : errZ q.z = 2 := if_pos hz
                have HE := Lib.hid (iBad (iBad_of (HBP.out (by simp [longZ, hz]))))
                rw [he]
                clear he hz
                go_wp2
                go_ret2
                refine ⟨.slice none 0 0, ret2 rfl (show Value.int .i64 2 = Value.int .i64 (iE x) by rw [HE.out.2]), ?_, HBW.out⟩
                rw [HE.out.1]
                exact Got.of_own (Own.nil _ _ _)
              · have he : errZ q.z = 0 := if_neg hz
                rw [he]
                have HZ := Lib.hid hz
                by_cases hlg : 1048576 < L8.length
                · have hlgI : (1048576 : Int) < L8.length := by omega
                  have HE := Lib.hid (iBad (by
                    obtain ⟨r, hr⟩ := HSP.out
                    exact instB_long hlg (by rw [hr, HL8.out, HO.out])))
                  clear he hz hlg
                  go_wp2
                  go_ret2
                  refine ⟨.slice none 0 0, ret2 rfl (show Value.int .i64 2 = Value.int .i64 (iE x) by rw [HE.out.2]), ?_, HBW.out⟩
                  rw [HE.out.1]
                  exact Got.of_own (Own.nil _ _ _)
                · have hlgI : ¬ (1048576 : Int) < L8.length := by omega
                  clear he hz hlg
                  go_upto_region 10 with (at_builtin; refine wpList_append_any rfl (.tmp 91) (.tmp 92) 22 rfl (w.heap.size + 1) 5 (.int .u8 0) 1 Try.underlying22 info_u8 rfl _ _ rfl HV9.out w9.heap.size E9 (encZ q.z).length e9 _ rfl (cells_length _).symm HR9.out (bytes_oneCell _) (by rw [cells_length]; unfold maxLen; omega) (by rw [cells_length]; omega) (by omega) ?_; intro v10 w10 hov10 hg10 hf10; rw [← cells_append] at hov10; obtain ⟨L10, hL10⟩ : ∃ L, L = L8 ++ encZ q.z := ⟨_, rfl⟩; rw [← hL10] at hov10; have HL10 := Lib.hid hL10; clear hL10; obtain ⟨E10, e10, rfl, -, -, -⟩ := bs_shape hov10)
                  have HB10 := Lib.hid (HB9.out.grown hg10 (by omega) (fun j hj => (HV9.out.lt j hj).1))
                  have hs10 : w9.heap.size ≤ w10.heap.size := hg10.size
                  have HG10 := Lib.hid ((Below.refl (w.heap.size + 1) w9).grown hg10 (by omega) (fun j hj => (HV9.out.lt j hj).1))
                  have HV10 := Lib.hid hov10
                  clear hov10 hg10 hf10
                  have HV11 : Hid (Bs w10 (w.heap.size + 1) (.slice E10 L10.length e10) (headL x ++ pastL (x.past.take (k + 1)))) := Lib.hid (by
                    have e1 : headL x ++ pastL (x.past.take (k + 1)) = L10 := by rw [HST.out, HL10.out, HL8.out, HO.out]; simp
                    rw [e1]; exact HV10.out)
                  have HN11 := Lib.hid (HNX.out (by have := HZ.out; simp [longZ, this]))
                  have hl11 : (headL x ++ pastL (x.past.take (k + 1))).length ≤ 3000000 := by
                    have e1 : headL x ++ pastL (x.past.take (k + 1)) = L8 ++ encZ q.z := by rw [HST.out, HL8.out, HO.out]; simp
                    rw [e1, List.length_append]; omega
                  clear HV10 HV9 HR9 HB9 HG10 HBW
                  go_wp2
                  go_roundw
                  case rel => exact ⟨k + 1, by omega, by go_num, HV11, HB10, HN11, hl11⟩
                  case measure => simp [intOf]; omega
            · have hltI : ¬ (k : Int) < x.past.length := by omega
              have hk2 : k = x.past.length := by omega
              have HOK : Hid (badI x = false) := Lib.hid (badI_ok HLEN.out.1 HLEN.out.2.1 HLEN.out.2.2.1 HLEN.out.2.2.2 (fun p hp => by
                obtain ⟨j, hj, rfl⟩ := List.getElem_of_mem hp
                exact hN.out j hj (by omega)))
              have HO2 : Hid (O = headL x ++ pastL x.past) := Lib.hid (by rw [HO.out, List.take_of_length_le (by omega)])
              have htl : x.tms.length ≤ 4096 := by have := HLEN.out.2.2.2; omega
              have hcall := Lib.hid (ruint_tot (x.tms.length : Int) (by omega) wr)
              have hei : Hid (encI (x.tms.length : Int) = enc x.tms.length ∧ errI (x.tms.length : Int) = 0) := Lib.hid ⟨by unfold encI; rw [if_neg (by omega)]; rfl, if_neg (by omega)⟩
              clear hbx hri hbw hlt hk2 HO hN
              go_wp2_with fail
              refine hcall.out.mono ?_
              clear hcall b0 b1 b2 b3 b4
              rintro e w12 ⟨v12, rfl, hv12, hb12⟩
              rw [hei.out.1] at hv12
              have hen : (enc x.tms.length).length ≤ 10 := enc_len _ (by omega)
              obtain ⟨E12, e12, rfl, -, -, hr12⟩ := bs_shape hv12
              have hs12 : wr.heap.size ≤ w12.heap.size := hb12.size
              have HB12 := Lib.hid (hB.out.trans (hb12.mono (by omega)))
              have HV12 : Hid (Bs w12 (w.heap.size + 1) _ _) := Lib.hid (Own.below hV.out hb12 (Nat.le_refl _))
              have HR12 := Lib.hid hr12
              clear hb12 hv12 hr12 hB hV
              go_upto_region 17 with fail
              go_upto_region 18 with (at_builtin; refine wpList_append_any rfl (.tmp 101) (.tmp 102) 22 rfl (w.heap.size + 1) 5 (.int .u8 0) 1 Try.underlying22 info_u8 rfl _ _ rfl HV12.out w12.heap.size E12 (enc x.tms.length).length e12 _ rfl (cells_length _).symm HR12.out (bytes_oneCell _) (by rw [cells_length]; unfold maxLen; omega) (by rw [cells_length]; omega) (by omega) ?_; intro v13 w13 hov13 hg13 hf13; rw [← cells_append] at hov13; obtain ⟨L13, hL13⟩ : ∃ L, L = O ++ enc x.tms.length := ⟨_, rfl⟩; rw [← hL13] at hov13; have HL13 := Lib.hid hL13; clear hL13; obtain ⟨E13, e13, rfl, -, -, -⟩ := bs_shape hov13)
              have HB13 := Lib.hid (HB12.out.grown hg13 (by omega) (fun j hj => (HV12.out.lt j hj).1))
              have hs13 : w12.heap.size ≤ w13.heap.size := hg13.size
              have HG13 := Lib.hid ((Below.refl (w.heap.size + 1) w12).grown hg13 (by omega) (fun j hj => (HV12.out.lt j hj).1))
              have HV13 := Lib.hid hov13
              clear hov13 hg13 hf13
              have hmid : L13 = midL x := by rw [HL13.out, HO2.out]; unfold midL; rw [List.append_assoc]
              have hl13 : L13.length ≤ 3000010 := by rw [HL13.out, List.length_append]; omega
              subst hmid
              clear HV12 HR12 HB12 HG13 hen HO2 hlen
              obtain ⟨wo, rfl⟩ : ∃ wo : World, wo = wr := ⟨_, rfl⟩
              go_wp2_with fail
              go_loopw [8, 14] (fun v n wr => ∃ (k : Nat), k ≤ x.tms.length ∧ n = .int .i64 k ∧ Hid (Bs wr (w.heap.size + 1) v (midL x ++ timL (x.tms.take k))) ∧ Hid (Below (w.heap.size + 1) W0 wr) ∧ (midL x ++ timL (x.tms.take k)).length ≤ 3000010 + 30 * k) (fun _ n _ => x.tms.length - (intOf n).toNat)
              case atStart => exact ⟨0, by omega, rfl, by simpa [timL] using HV13, HB13, by simp [timL]; omega⟩
              case round =>
                obtain ⟨k, hk, rfl, hV, hB, hlen⟩ := hrel
                clear HV13 HB13
                obtain ⟨O, hO⟩ : ∃ O, O = midL x ++ timL (x.tms.take k) := ⟨_, rfl⟩
                rw [← hO] at hV hlen
                have HO := Lib.hid hO
                clear hO
                obtain ⟨E6, e6, rfl, -, -, -⟩ := bs_shape hV.out
                obtain ⟨hbx, hri, hsw, hbw⟩ := HBOX.out wr hB.out
                obtain ⟨b0, b1, b2, b3, b4⟩ := five_at hbx
                by_cases hlt : k < x.tms.length
                · have hltI : (k : Int) < x.tms.length := by omega
                  obtain ⟨ad, rfl, had, o, hao, p0, p1, p2⟩ := hri.tms k hlt
                  have HW := Lib.hid (HX.out.tms _ (List.getElem_mem hlt))
                  have HST := Lib.hid (timL_step hlt)
                  generalize x.tms[k] = q at p0 p1 p2 HW HST
                  have HT : Hid (∀ W, Below (w.heap.size + 1) wr W → W.cell? ⟨ad.block, o, none⟩ = some (.int .i64 q.d) ∧ W.cell? ⟨ad.block, o + 1, none⟩ = some (.int .i64 q.n) ∧ W.cell? ⟨ad.block, o + 2, none⟩ = some (.int .i64 q.s)) := Lib.hid fun W hb => by
                    have hm := hb.mono (Nat.le_succ w.heap.size)
                    exact ⟨(hm.cell (p := ⟨ad.block, o, none⟩) had).trans p0, (hm.cell (p := ⟨ad.block, o + 1, none⟩) had).trans p1, (hm.cell (p := ⟨ad.block, o + 2, none⟩) had).trans p2⟩
                  have HTB : Hid (Below (w.heap.size + 1) wr wr) := Lib.hid (Below.refl _ _)
                  clear hbx hri hbw
                  have hcall := Lib.hid (rint_any q.d HW.out.1 wr)
                  go_wp2_with fail
                  refine hcall.out.mono ?_
                  clear hcall b0 b1 b2 b3 b4 p0 p1 p2
                  rintro e w20 ⟨v20, rfl, hv20, hb20⟩
                  obtain ⟨E20, e20, rfl, -, -, hr20⟩ := bs_shape hv20
                  have hen20 : (enc (fold1 q.d)).length ≤ 10 := enc_len2 _ HW.out.1
                  have hs20 : wr.heap.size ≤ w20.heap.size := hb20.size
                  have HB20 := Lib.hid (hB.out.trans (hb20.mono (by omega)))
                  have HTB20 := Lib.hid (HTB.out.trans (hb20.mono (by omega)))
                  have HV20 : Hid (Bs w20 (w.heap.size + 1) _ _) := Lib.hid (Own.below hV.out hb20 (Nat.le_refl _))
                  have HR20 := Lib.hid hr20
                  clear hb20 hv20 hr20 hB hV HTB
                  go_upto_region 22 with (at_builtin; refine wpList_append_any rfl (.tmp 111) (.tmp 118) 22 rfl (w.heap.size + 1) 5 (.int .u8 0) 1 Try.underlying22 info_u8 rfl _ _ rfl HV20.out w20.heap.size E20 (enc (fold1 q.d)).length e20 _ rfl (cells_length _).symm HR20.out (bytes_oneCell _) (by rw [cells_length]; unfold maxLen; omega) (by rw [cells_length]; omega) (by omega) ?_; intro v21 w21 hov21 hg21 hf21; rw [← cells_append] at hov21; obtain ⟨L21, hL21⟩ : ∃ L, L = O ++ enc (fold1 q.d) := ⟨_, rfl⟩; rw [← hL21] at hov21; have HL21 := Lib.hid hL21; clear hL21; obtain ⟨E21, e21, rfl, -, -, -⟩ := bs_shape hov21)
                  have HB21 := Lib.hid (HB20.out.grown hg21 (by omega) (fun j hj => (HV20.out.lt j hj).1))
                  have hs21 : w20.heap.size ≤ w21.heap.size := hg21.size
                  have HG21 := Lib.hid ((Below.refl (w.heap.size + 1) w20).grown hg21 (by omega) (fun j hj => (HV20.out.lt j hj).1))
                  have HV21 := Lib.hid hov21
                  clear hov21 hg21 hf21
                  have hln21 : L21.length ≤ O.length + 10 := by rw [HL21.out, List.length_append]; omega
                  have HTB21 := Lib.hid (HTB20.out.trans HG21.out)
                  clear HV20 HR20 HB20 HTB20 HG21
                  obtain ⟨hbx, hri, hsw, hbw⟩ := HBOX.out w21 HB21.out
                  obtain ⟨b0, b1, b2, b3, b4⟩ := five_at hbx
                  obtain ⟨p0, p1, p2⟩ := HT.out w21 HTB21.out
                  clear hbx hri hbw
                  have hcall := Lib.hid (rint_any q.n HW.out.2.1 w21)
                  go_wp2_with fail
                  refine hcall.out.mono ?_
                  clear hcall b0 b1 b2 b3 b4 p0 p1 p2
                  rintro e w22 ⟨v22, rfl, hv22, hb22⟩
                  obtain ⟨E22, e22, rfl, -, -, hr22⟩ := bs_shape hv22
                  have hen22 : (enc (fold1 q.n)).length ≤ 10 := enc_len2 _ HW.out.2.1
                  have hs22 : w21.heap.size ≤ w22.heap.size := hb22.size
                  have HB22 := Lib.hid (HB21.out.trans (hb22.mono (by omega)))
                  have HTB22 := Lib.hid (HTB21.out.trans (hb22.mono (by omega)))
                  have HV22 : Hid (Bs w22 (w.heap.size + 1) _ _) := Lib.hid (Own.below HV21.out hb22 (Nat.le_refl _))
                  have HR22 := Lib.hid hr22
                  clear hb22 hv22 hr22 HB21 HV21 HTB21
                  go_upto_region 23 with (at_builtin; refine wpList_append_any rfl (.tmp 120) (.tmp 127) 22 rfl (w.heap.size + 1) 5 (.int .u8 0) 1 Try.underlying22 info_u8 rfl _ _ rfl HV22.out w22.heap.size E22 (enc (fold1 q.n)).length e22 _ rfl (cells_length _).symm HR22.out (bytes_oneCell _) (by rw [cells_length]; unfold maxLen; omega) (by rw [cells_length]; omega) (by omega) ?_; intro v23 w23 hov23 hg23 hf23; rw [← cells_append] at hov23; obtain ⟨L23, hL23⟩ : ∃ L, L = L21 ++ enc (fold1 q.n) := ⟨_, rfl⟩; rw [← hL23] at hov23; have HL23 := Lib.hid hL23; clear hL23; obtain ⟨E23, e23, rfl, -, -, -⟩ := bs_shape hov23)
                  have HB23 := Lib.hid (HB22.out.grown hg23 (by omega) (fun j hj => (HV22.out.lt j hj).1))
                  have hs23 : w22.heap.size ≤ w23.heap.size := hg23.size
                  have HG23 := Lib.hid ((Below.refl (w.heap.size + 1) w22).grown hg23 (by omega) (fun j hj => (HV22.out.lt j hj).1))
                  have HV23 := Lib.hid hov23
                  clear hov23 hg23 hf23
                  have hln23 : L23.length ≤ L21.length + 10 := by rw [HL23.out, List.length_append]; omega
                  have HTB23 := Lib.hid (HTB22.out.trans HG23.out)
                  clear HV22 HR22 HB22 HTB22 HG23
                  obtain ⟨hbx, hri, hsw, hbw⟩ := HBOX.out w23 HB23.out
                  obtain ⟨b0, b1, b2, b3, b4⟩ := five_at hbx
                  obtain ⟨p0, p1, p2⟩ := HT.out w23 HTB23.out
                  clear hbx hri hbw
                  have hcall := Lib.hid (rint_any q.s HW.out.2.2 w23)
                  go_wp2_with fail
                  refine hcall.out.mono ?_
                  clear hcall b0 b1 b2 b3 b4 p0 p1 p2
                  rintro e w24 ⟨v24, rfl, hv24, hb24⟩
                  obtain ⟨E24, e24, rfl, -, -, hr24⟩ := bs_shape hv24
                  have hen24 : (enc (fold1 q.s)).length ≤ 10 := enc_len2 _ HW.out.2.2
                  have hs24 : w23.heap.size ≤ w24.heap.size := hb24.size
                  have HB24 := Lib.hid (HB23.out.trans (hb24.mono (by omega)))
                  have HTB24 := Lib.hid (HTB23.out.trans (hb24.mono (by omega)))
                  have HV24 : Hid (Bs w24 (w.heap.size + 1) _ _) := Lib.hid (Own.below HV23.out hb24 (Nat.le_refl _))
                  have HR24 := Lib.hid hr24
                  clear hb24 hv24 hr24 HB23 HV23 HTB23
                  go_upto_region 20 with (at_builtin; refine wpList_append_any rfl (.tmp 129) (.tmp 136) 22 rfl (w.heap.size + 1) 5 (.int .u8 0) 1 Try.underlying22 info_u8 rfl _ _ rfl HV24.out w24.heap.size E24 (enc (fold1 q.s)).length e24 _ rfl (cells_length _).symm HR24.out (bytes_oneCell _) (by rw [cells_length]; unfold maxLen; omega) (by rw [cells_length]; omega) (by omega) ?_; intro v25 w25 hov25 hg25 hf25; rw [← cells_append] at hov25; obtain ⟨L25, hL25⟩ : ∃ L, L = L23 ++ enc (fold1 q.s) := ⟨_, rfl⟩; rw [← hL25] at hov25; have HL25 := Lib.hid hL25; clear hL25; obtain ⟨E25, e25, rfl, -, -, -⟩ := bs_shape hov25)
                  have HB25 := Lib.hid (HB24.out.grown hg25 (by omega) (fun j hj => (HV24.out.lt j hj).1))
                  have hs25 : w24.heap.size ≤ w25.heap.size := hg25.size
                  have HG25 := Lib.hid ((Below.refl (w.heap.size + 1) w24).grown hg25 (by omega) (fun j hj => (HV24.out.lt j hj).1))
                  have HV25 := Lib.hid hov25
                  clear hov25 hg25 hf25
                  have hln25 : L25.length ≤ L23.length + 10 := by rw [HL25.out, List.length_append]; omega
                  have HTB25 := Lib.hid (HTB24.out.trans HG25.out)
                  clear HV24 HR24 HB24 HTB24 HG25
                  have HV27 : Hid (Bs w25 (w.heap.size + 1) (.slice E25 L25.length e25) (midL x ++ timL (x.tms.take (k + 1)))) := Lib.hid (by
                    have e1 : midL x ++ timL (x.tms.take (k + 1)) = L25 := by rw [HST.out, HL25.out, HL23.out, HL21.out, HO.out]; simp
                    rw [e1]; exact HV25.out)
                  have hl27 : (midL x ++ timL (x.tms.take (k + 1))).length ≤ 3000010 + 30 * (k + 1) := by
                    have e1 : midL x ++ timL (x.tms.take (k + 1)) = L25 := by rw [HST.out, HL25.out, HL23.out, HL21.out, HO.out]; simp
                    rw [e1]; omega
                  clear HV25 HTB25
                  go_wp2
                  go_roundw
                  case rel => exact ⟨k + 1, by omega, by go_num, HV27, HB25, hl27⟩
                  case measure => simp [intOf]; omega
                · have hltI : ¬ (k : Int) < x.tms.length := by omega
                  have HO2 : Hid (O ++ enc (fold1 x.now) = instL x) := Lib.hid (by rw [HO.out, List.take_of_length_le (by omega)]; unfold instL; simp)
                  have hcall := Lib.hid (rint_any x.now HX.out.now wr)
                  clear hbx hri hlt
                  go_wp2_with fail
                  refine hcall.out.mono ?_
                  clear hcall b0 b1 b2 b3 b4
                  rintro e w30 ⟨v30, rfl, hv30, hb30⟩
                  obtain ⟨E30, e30, rfl, -, -, hr30⟩ := bs_shape hv30
                  have hen30 : (enc (fold1 x.now)).length ≤ 10 := enc_len2 _ HX.out.now
                  have hs30 : wr.heap.size ≤ w30.heap.size := hb30.size
                  have HB30 := Lib.hid (hB.out.trans (hb30.mono (by omega)))
                  have HV30 : Hid (Bs w30 (w.heap.size + 1) _ _) := Lib.hid (Own.below hV.out hb30 (Nat.le_refl _))
                  have HR30 := Lib.hid hr30
                  clear hb30 hv30 hr30 hB hV
                  go_wp2_with (at_builtin; refine wpList_append_any rfl (.tmp 138) (.tmp 141) 22 rfl (w.heap.size + 1) 5 (.int .u8 0) 1 Try.underlying22 info_u8 rfl _ _ rfl HV30.out w30.heap.size E30 (enc (fold1 x.now)).length e30 _ rfl (cells_length _).symm HR30.out (bytes_oneCell _) (by rw [cells_length]; unfold maxLen; omega) (by rw [cells_length]; omega) (by omega) ?_; intro v31 w31 hov31 hg31 hf31; rw [← cells_append] at hov31; obtain ⟨L31, hL31⟩ : ∃ L, L = O ++ enc (fold1 x.now) := ⟨_, rfl⟩; rw [← hL31] at hov31; have HL31 := Lib.hid hL31; clear hL31; obtain ⟨E31, e31, rfl, -, -, -⟩ := bs_shape hov31)
                  have HB31 := Lib.hid (HB30.out.grown hg31 (by omega) (fun j hj => (HV30.out.lt j hj).1))
                  have hs31 : w30.heap.size ≤ w31.heap.size := hg31.size
                  have HG31 := Lib.hid ((Below.refl (w.heap.size + 1) w30).grown hg31 (by omega) (fun j hj => (HV30.out.lt j hj).1))
                  have HV31 := Lib.hid hov31
                  clear hov31 hg31 hf31
                  have hL : L31 = instL x := by rw [HL31.out, HO2.out]
                  have hl31 : L31.length ≤ 4000000 := by rw [HL31.out, List.length_append]; omega
                  obtain ⟨-, -, -, hbw31⟩ := HBOX.out w31 HB31.out
                  have hcall := Lib.hid (rclose_any E31 L31 L31.length e31 rfl w31 (own_rd HV31.out) (by omega))
                  have HE := Lib.hid (close_good HOK.out)
                  have HLL := Lib.hid hL
                  have HBW := Lib.hid hbw31
                  clear hL hbw31 HG31 HB31 HV30 HR30 HB30
                  refine hcall.out.mono ?_
                  clear hcall
                  rintro e w32 ⟨v32, rfl, hv32, hb32⟩
                  obtain ⟨E32, e32, rfl, -, -, -⟩ := bs_shape hv32
                  have HF := Lib.hid (And.intro (Got.of_own (Own.mono hv32 HBW.out.size)) (HBW.out.trans (hb32.mono HBW.out.size)))
                  clear hb32 hv32 HBW
                  go_wp2
                  go_ret2
                  refine ⟨.slice E32 (closeS L31).length e32, ret2 rfl (show Value.int .i64 (closeE L31) = Value.int .i64 (iE x) by rw [HLL.out, HE.out.2]), ?_, HF.out.2⟩
                  rw [← HE.out.1, ← HLL.out]
                  exact HF.out.1
end Go.Proofs.Ytaadbklimfngiaa
