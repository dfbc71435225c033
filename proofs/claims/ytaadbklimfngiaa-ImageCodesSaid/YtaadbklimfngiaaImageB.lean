/- An instance in bytes (image.Bytes). Condition: the instance can be read, its numbers are 64 bits wide. -/
import Derived.Test.YtaadbklimfngiaaImageBytes
set_option linter.unusedVariables false
namespace Go.Proofs.Ytaadbklimfngiaa
open Go.RowKit Oct

theorem put_len {p : Pg} {l : List UInt8} {e : Int} (h : (p.put l e).long = false) : (p.put l e).b.length ≤ 1048576 + l.length := by
  unfold Pg.put at h ⊢
  split
  · rename_i h2
    rw [if_pos h2] at h
    cases h
  · rename_i h2
    simp at h2
    simp
    omega
theorem pg3_len {x : InstD} (hn : wf64 x.now) (h : (pg3 x).long = false) : (pg3 x).b.length ≤ 140737488351232 := by
  have h1 : (pg3 x).b.length ≤ 1048576 + (enc (fold1 x.now)).length := put_len h
  have h2 := enc_len2 x.now hn
  omega
theorem five_at {w : World} {g : Nat} {t : TypeId} {a b c d e : Value} (h : Blk w g t #[a, b, c, d, e]) : w.cell? ⟨g, 0, none⟩ = some a ∧ w.cell? ⟨g, 1, none⟩ = some b ∧ w.cell? ⟨g, 2, none⟩ = some c ∧ w.cell? ⟨g, 3, none⟩ = some d ∧ w.cell? ⟨g, 4, none⟩ = some e :=
  ⟨h.cell 0, h.cell 1, h.cell 2, h.cell 3, h.cell 4⟩
theorem rd_new (w : World) (t : TypeId) (vs : List Value) (h : 0 < vs.length) : Rd (w.alloc (.cells vs.toArray t)) (w.alloc (.cells vs.toArray t)).heap.size (some ⟨w.heap.size, 0, none⟩) vs := fun _ =>
  ⟨_, rfl, by simp, fun j u hj => by rw [lit_add, Nat.zero_add]; exact ((Blk.new w t vs.toArray).cell j).trans (by simpa using hj)⟩
set_option maxHeartbeats 4000000 in
set_option maxRecDepth 100000 in
theorem imageBytes_any (x : InstD) (A1 : Option Addr) (c1 : Nat) (A2 : Option Addr) (c2 : Nat) (A3 : Option Addr) (c3 : Nat) (A4 : Option Addr) (c4 : Nat) (w : World) (hx : x.wf) (hR : InstRd w w.heap.size x A1 c1 A2 c2 A3 c3 A4 c4) :
    Calls Try.prog 69 #[instV x A1 c1 A2 c2 A3 c3 A4 c4] w fun e w' => ∃ v, e = .returned (.tuple #[v, .int .i64 (iE x)]) ∧ Got w' w.heap.size v (iS x) ∧ Below w.heap.size w w' := by
  unfold instV
  have hbA := (Below.refl w.heap.size w).alloc (Nat.le_refl _) (.cells #[.slice A1 x.act.length c1, .slice A2 x.nums.length c2, .slice A3 x.past.length c3, .slice A4 x.tms.length c4, .int .i64 x.now] 87)
  have hKA := Blk.new w 87 #[.slice A1 x.act.length c1, .slice A2 x.nums.length c2, .slice A3 x.past.length c3, .slice A4 x.tms.length c4, .int .i64 x.now]
  have hsA : (w.alloc (.cells #[.slice A1 x.act.length c1, .slice A2 x.nums.length c2, .slice A3 x.past.length c3, .slice A4 x.tms.length c4, .int .i64 x.now] 87)).heap.size = w.heap.size + 1 := by simp
  have hbB := hbA.alloc (by omega) (.cells #[.slice none 0 0, .bool false] 131)
  have hKP := Blk.new (w.alloc (.cells #[.slice A1 x.act.length c1, .slice A2 x.nums.length c2, .slice A3 x.past.length c3, .slice A4 x.tms.length c4, .int .i64 x.now] 87)) 131 #[.slice none 0 0, .bool false]
  rw [hsA] at hKP
  have HPG0 : Hid (PgAt _ (w.heap.size + 1) pg0 (.slice none 0 0)) := Lib.hid ⟨hKP, Own.nil _ _ _⟩
  have HB0 := Lib.hid hbB
  have HK0 := Lib.hid (hKA.alloc (.cells #[.slice none 0 0, .bool false] 131))
  have HS0 := Lib.hid (show ((w.alloc (.cells #[.slice A1 x.act.length c1, .slice A2 x.nums.length c2, .slice A3 x.past.length c3, .slice A4 x.tms.length c4, .int .i64 x.now] 87)).alloc (.cells #[.slice none 0 0, .bool false] 131)).heap.size = w.heap.size + 2 by simp)
  have HX := Lib.hid hx
  have HR := Lib.hid hR
  have hp1 : x.act.length ≤ 140737488351232 := by have := hR.r1; omega
  have hp2 : x.nums.length ≤ 140737488351232 := by have := hR.r2; omega
  have hp3 : x.past.length ≤ 140737488351232 := by have := hR.r3; omega
  have hp4 : x.tms.length ≤ 140737488351232 := by have := hR.r4; omega
  clear hbA hKA hbB hKP hx hR hsA
  go_enter Try.func69, Try.ntmps69
  go_upto_region 2 with fail
  generalize (w.alloc (.cells #[.slice A1 x.act.length c1, .slice A2 x.nums.length c2, .slice A3 x.past.length c3, .slice A4 x.tms.length c4, .int .i64 x.now] 87)).alloc (.cells #[.slice none 0 0, .bool false] 131) = W0 at HPG0 HB0 HK0 HS0 ⊢
  have hs0 : W0.heap.size = w.heap.size + 2 := HS0.out
  have HBOX : Hid (∀ W, Below (w.heap.size + 1) W0 W → (Blk W w.heap.size 87 #[.slice A1 x.act.length c1, .slice A2 x.nums.length c2, .slice A3 x.past.length c3, .slice A4 x.tms.length c4, .int .i64 x.now] ∧ InstRd W w.heap.size x A1 c1 A2 c2 A3 c3 A4 c4 ∧ w.heap.size + 2 ≤ W.heap.size ∧ Below w.heap.size w W)) := Lib.hid fun W hb => by
    have h1 := HB0.out.trans (hb.mono (Nat.le_succ _))
    exact ⟨HK0.out.below hb (Nat.lt_succ_self _), HR.out.below h1 (Nat.le_refl _), by have := hb.size; omega, h1⟩
  clear HS0 HB0 HK0 HR
  obtain ⟨b0, b1, b2, b3, b4⟩ := five_at (HBOX.out W0 (Below.refl _ _)).1
  have hr0 := (HBOX.out W0 (Below.refl _ _)).2.1
  have hrow := Lib.hid (prow_any (w.heap.size + 1) pg0 _ A1 x.act x.act.length c1 rfl W0 HPG0.out (hr0.act.more (by omega)) HX.out.act hp1)
  clear hr0 hs0
  go_wp2_with fail
  refine hrow.out.mono ?_
  clear hrow b0 b1 b2 b3 b4 HPG0
  rintro e w1 ⟨v1, rfl, hP1, hb1⟩
  obtain ⟨b0, b1, b2, b3, b4⟩ := five_at (HBOX.out w1 hb1).1
  have hr1 := (HBOX.out w1 hb1).2.1
  have hz1 := (HBOX.out w1 hb1).2.2.2.size
  have hrow := Lib.hid (prow_any (w.heap.size + 1) _ _ A2 x.nums x.nums.length c2 rfl w1 hP1 (hr1.nums.more hz1) HX.out.nums hp2)
  have HB1 := Lib.hid hb1
  clear hr1 hP1 hb1 hz1
  go_wp2_with fail
  refine hrow.out.mono ?_
  clear hrow b0 b1 b2 b3 b4
  rintro e w2 ⟨v2, rfl, hP2, hb2⟩
  have HB2 := Lib.hid (HB1.out.trans hb2)
  obtain ⟨b0, b1, b2, b3, b4⟩ := five_at (HBOX.out w2 HB2.out).1
  have hmany := Lib.hid (pmany_any (w.heap.size + 1) _ _ x.past.length w2 hP2 (by omega))
  clear hP2 hb2 HB1
  go_wp2_with fail
  refine hmany.out.mono ?_
  clear hmany b0 b1 b2 b3 b4
  rintro e w3 ⟨v3, rfl, hP3, hb3⟩
  have HB3 := Lib.hid (HB2.out.trans hb3)
  have HP3 : Hid (PgAt w3 (w.heap.size + 1) (pg1 x) v3) := Lib.hid hP3
  clear hP3 hb3 HB2
  go_wp2_with fail
  go_loopw [5] (fun n wr => ∃ (k : Nat) (v : Value), k ≤ x.past.length ∧ n = .int .i64 k ∧ Hid (PgAt wr (w.heap.size + 1) ((pg1 x).pasts (x.past.take k)) v) ∧ Hid (Below (w.heap.size + 1) W0 wr)) (fun n _ => x.past.length - (intOf n).toNat)
  case atStart => exact ⟨0, v3, by omega, rfl, HP3, HB3⟩
  case round =>
    obtain ⟨k, v, hk, rfl, hP, hB⟩ := hrel
    clear HP3 HB3
    obtain ⟨hbx, hri, hsz, hbw⟩ := HBOX.out wr hB.out
    obtain ⟨b0, b1, b2, b3, b4⟩ := five_at hbx
    obtain ⟨m0, m1, n0, n1⟩ := blk2_at hP.out.1
    obtain ⟨lg, hlg⟩ : ∃ b, b = ((pg1 x).pasts (x.past.take k)).long := ⟨_, rfl⟩
    rw [← hlg] at m1
    have HLG := Lib.hid hlg
    clear hlg
    by_cases hgo : k < x.past.length ∧ lg = false
    · obtain ⟨hlt, rfl⟩ := hgo
      have hltI : (k : Int) < x.past.length := by omega
      obtain ⟨ad, rfl, had, o, A', c', hao, p0, p1, prd, ple, pcap⟩ := hri.past k hlt
      have hzl : x.past[k].z.length * 8 ≤ 140737488351232 := hri.rz _ (List.getElem_mem hlt)
      obtain ⟨pw1, pw2⟩ := HX.out.past _ (List.getElem_mem hlt)
      have HST := Lib.hid (Pg.pasts_step (p := pg1 x) hlt)
      generalize x.past[k] = q at p0 p1 prd ple hzl pw1 pw2 HST
      have PW1 := Lib.hid pw1
      have PW2 := Lib.hid pw2
      have PRD := Lib.hid prd
      have hbA : Below wr.heap.size wr (wr.alloc (.cells [Value.int .i64 q.n].toArray 3)) := (Below.refl _ wr).alloc (Nat.le_refl _) _
      have hnums := Lib.hid (pnums_any (w.heap.size + 1) _ v (some ⟨wr.heap.size, 0, none⟩) [q.n] 1 1 rfl (wr.alloc (.cells [Value.int .i64 q.n].toArray 3)) (hP.out.below hbA (Nat.le_refl _)) (rd_new wr 3 [.int .i64 q.n] (by simp)) (fun n hn => by simp at hn; subst hn; exact pw1) (by simp) (fun ad2 had2 _ => by
        injection had2 with had2
        subst had2
        refine ⟨by show wr.heap.size ≠ w.heap.size + 1; omega, fun e => ?_⟩
        have h := (Own.lt hP.out.2 _ e).2
        exact absurd h (Nat.lt_irrefl _)))
      have HBA := Lib.hid hbA
      clear hbx hbA pw1 pw2 prd hri hP
      go_wp2_with fail
      refine hnums.out.mono ?_
      clear hnums
      rintro e w4 ⟨v4, rfl, hP4, hb4⟩
      have hb14 := (HBA.out.mono (by omega : w.heap.size + 1 ≤ wr.heap.size)).trans hb4
      have HB4 := Lib.hid (hB.out.trans hb14)
      have hcell : ∀ j, w4.cell? ⟨ad.block, j, none⟩ = wr.cell? ⟨ad.block, j, none⟩ := fun j => (hb14.mono (Nat.le_succ _)).cell (p := ⟨ad.block, j, none⟩) had
      have hq1 := (hcell _).trans p1
      have hs4 := (HBOX.out w4 HB4.out).2.2.1
      have hrow := Lib.hid (prow_any (w.heap.size + 1) _ v4 A' q.z q.z.length c' rfl w4 hP4 ((PRD.out.below (hb14.mono (Nat.le_succ _))).more (by omega)) PW2.out (by omega))
      obtain ⟨b0, b1, b2, b3, b4⟩ := five_at (HBOX.out w4 HB4.out).1
      clear hP4 hb4 hcell p0 p1 hb14 HBA m0 m1 n0 n1 hbw hB
      go_wp2_with fail
      refine hrow.out.mono ?_
      clear hrow
      rintro e w5 ⟨v5, rfl, hP5, hb5⟩
      have HP5 : Hid (PgAt w5 (w.heap.size + 1) ((pg1 x).pasts (x.past.take (k + 1))) v5) := Lib.hid (by rw [HST.out]; exact hP5)
      have HB5 := Lib.hid (HB4.out.trans hb5)
      clear hP5 hb5 HB4 hq1
      go_wp2
      go_roundw
      case rel => exact ⟨k + 1, v5, by omega, by go_num, HP5, HB5⟩
      case measure => simp [intOf]; omega
    · have HPE : Hid (PgAt wr (w.heap.size + 1) ((pg1 x).pasts x.past) v) := Lib.hid (by
        have h := hP.out
        by_cases hkl : k < x.past.length
        · have hl : lg = true := by
            cases lg
            · exact absurd ⟨hkl, rfl⟩ hgo
            · rfl
          rwa [Pg.pasts_end (by rw [← HLG.out]; exact hl)] at h
        · rwa [List.take_of_length_le (by omega)] at h)
      by_cases hkl : k < x.past.length
      · have hl : lg = true := by
          cases lg
          · exact absurd ⟨hkl, rfl⟩ hgo
          · rfl
        subst hl
        have hltI : (k : Int) < x.past.length := by omega
        clear hgo hP hbx hri HLG
        have hmany := Lib.hid (pmany_any (w.heap.size + 1) _ _ x.tms.length wr HPE.out (by omega))
        obtain ⟨wo, rfl⟩ : ∃ wo : World, wo = wr := ⟨_, rfl⟩
        go_wp2_with fail
        refine hmany.out.mono ?_
        clear hmany b0 b1 b2 b3 b4 HPE m0 m1 n0 n1
        rintro e w4 ⟨v4, rfl, hP4, hb4⟩
        have HB4 := Lib.hid (hB.out.trans hb4)
        have HP4 : Hid (PgAt w4 (w.heap.size + 1) (pg2 x) v4) := Lib.hid hP4
        clear hP4 hb4 hB
        go_wp2_with fail
        go_loopw [6] (fun n wr => ∃ (k : Nat) (v : Value), k ≤ x.tms.length ∧ n = .int .i64 k ∧ Hid (PgAt wr (w.heap.size + 1) ((pg2 x).tims (x.tms.take k)) v) ∧ Hid (Below (w.heap.size + 1) W0 wr)) (fun n _ => x.tms.length - (intOf n).toNat)
        case atStart => exact ⟨0, v4, by omega, rfl, HP4, HB4⟩
        case round =>
          obtain ⟨k, v, hk, rfl, hP, hB⟩ := hrel
          clear HP4 HB4
          obtain ⟨hbx, hri, hsz, hbw⟩ := HBOX.out wr hB.out
          obtain ⟨b0, b1, b2, b3, b4⟩ := five_at hbx
          obtain ⟨m0, m1, n0, n1⟩ := blk2_at hP.out.1
          obtain ⟨lg, hlg⟩ : ∃ b, b = ((pg2 x).tims (x.tms.take k)).long := ⟨_, rfl⟩
          rw [← hlg] at m1
          have HLG := Lib.hid hlg
          clear hlg
          by_cases hgo : k < x.tms.length ∧ lg = false
          · obtain ⟨hlt, rfl⟩ := hgo
            have hltI : (k : Int) < x.tms.length := by omega
            obtain ⟨ad, rfl, had, o, hao, p0, p1, p2⟩ := hri.tms k hlt
            have HW := Lib.hid (HX.out.tms _ (List.getElem_mem hlt))
            have HST := Lib.hid (Pg.tims_step (p := pg2 x) hlt)
            generalize x.tms[k] = q at p0 p1 p2 HW HST
            clear hbx hri
            go_wp2_with fail
            refine wp_region_held_drew (S := fun W => W.cell? ⟨w.heap.size, 3, none⟩ = some (.slice (some ad) x.tms.length c4) ∧ W.cell? ⟨ad.block, o, none⟩ = some (.int .i64 q.d) ∧ W.cell? ⟨ad.block, o + 1, none⟩ = some (.int .i64 q.n) ∧ W.cell? ⟨ad.block, o + 2, none⟩ = some (.int .i64 q.s)) (by kernel_rfl) ⟨b3, p0, p1, p2⟩ (fun hHeld => ?_)
            refine held_take 0 (v := ?_) (by simp) (by kernel_rfl) (by kernel_rfl) (by kernel_rfl) (fun _ _ _ h => h) (Or.inl ⟨by rfl, ?_⟩) hHeld ?_
            case refine_2 => (intro w hSw; (try dsimp only at hSw); (try (obtain ⟨s0, s1, s2, s3⟩ := hSw)); simp only [List.getElem_cons_zero]; go_simp <;> with_reducible rfl)
            simp only [List.getElem_cons_zero, Act.put, List.setIfInBounds_toArray, List.set_cons_zero, List.set_cons_succ]
            refine held_take 1 (v := ?_) (by simp) (by kernel_rfl) (by kernel_rfl) (by kernel_rfl) (fun _ _ _ h => h) (Or.inl ⟨by rfl, ?_⟩) hHeld ?_
            case refine_2 => (intro w hSw; (try dsimp only at hSw); (try (obtain ⟨s0, s1, s2, s3⟩ := hSw)); simp only [List.getElem_cons_zero, List.getElem_cons_succ]; go_simp <;> with_reducible rfl)
            simp only [List.getElem_cons_zero, List.getElem_cons_succ, Act.put, List.setIfInBounds_toArray, List.set_cons_zero, List.set_cons_succ]
            refine held_take 2 (v := ?_) (by simp) (by kernel_rfl) (by kernel_rfl) (by kernel_rfl) (fun _ _ _ h => h) (Or.inl ⟨by rfl, ?_⟩) hHeld ?_
            case refine_2 => (intro w hSw; (try dsimp only at hSw); (try (obtain ⟨s0, s1, s2, s3⟩ := hSw)); simp only [List.getElem_cons_zero, List.getElem_cons_succ]; go_simp <;> with_reducible rfl)
            simp only [List.getElem_cons_zero, List.getElem_cons_succ, Act.put, List.setIfInBounds_toArray, List.set_cons_zero, List.set_cons_succ]
            refine held_take 3 (v := ?_) (by simp) (by kernel_rfl) (by kernel_rfl) (by kernel_rfl) (fun _ _ _ h => h) (Or.inl ⟨by rfl, ?_⟩) hHeld ?_
            case refine_2 => (intro w hSw; (try dsimp only at hSw); (try (obtain ⟨s0, s1, s2, s3⟩ := hSw)); simp only [List.getElem_cons_zero, List.getElem_cons_succ]; go_simp <;> with_reducible rfl)
            simp only [List.getElem_cons_zero, List.getElem_cons_succ, Act.put, List.setIfInBounds_toArray, List.set_cons_zero, List.set_cons_succ]
            refine held_take 4 (v := ?_) (by simp) (by kernel_rfl) (by kernel_rfl) (by kernel_rfl) (fun _ _ _ h => h) (Or.inl ⟨by rfl, ?_⟩) hHeld ?_
            case refine_2 => (intro w hSw; (try dsimp only at hSw); (try (obtain ⟨s0, s1, s2, s3⟩ := hSw)); simp only [List.getElem_cons_zero, List.getElem_cons_succ]; go_simp <;> with_reducible rfl)
            simp only [List.getElem_cons_zero, List.getElem_cons_succ, Act.put, List.setIfInBounds_toArray, List.set_cons_zero, List.set_cons_succ]
            refine held_take 5 (v := ?_) (by simp) (by kernel_rfl) (by kernel_rfl) (by kernel_rfl) (fun _ _ _ h => h) (Or.inl ⟨by rfl, ?_⟩) hHeld ?_
            case refine_2 => (intro w hSw; (try dsimp only at hSw); (try (obtain ⟨s0, s1, s2, s3⟩ := hSw)); simp only [List.getElem_cons_zero, List.getElem_cons_succ]; go_simp <;> with_reducible rfl)
            simp only [List.getElem_cons_zero, List.getElem_cons_succ, Act.put, List.setIfInBounds_toArray, List.set_cons_zero, List.set_cons_succ]
            refine held_take 6 (v := ?_) (by simp) (by kernel_rfl) (by kernel_rfl) (by kernel_rfl) (fun _ _ _ h => h) (Or.inl ⟨by rfl, ?_⟩) hHeld ?_
            case refine_2 => (intro w hSw; (try dsimp only at hSw); (try (obtain ⟨s0, s1, s2, s3⟩ := hSw)); simp only [List.getElem_cons_zero, List.getElem_cons_succ]; go_simp <;> with_reducible rfl)
            simp only [List.getElem_cons_zero, List.getElem_cons_succ, Act.put, List.setIfInBounds_toArray, List.set_cons_zero, List.set_cons_succ]
            refine held_take 7 (v := ?_) (by simp) (by kernel_rfl) (by kernel_rfl) (by kernel_rfl) (fun _ _ _ h => h) (Or.inl ⟨by rfl, ?_⟩) hHeld ?_
            case refine_2 => (intro w hSw; (try dsimp only at hSw); (try (obtain ⟨s0, s1, s2, s3⟩ := hSw)); simp only [List.getElem_cons_zero, List.getElem_cons_succ]; go_simp <;> with_reducible rfl)
            simp only [List.getElem_cons_zero, List.getElem_cons_succ, Act.put, List.setIfInBounds_toArray, List.set_cons_zero, List.set_cons_succ]
            refine held_take 8 (v := ?_) (by simp) (by kernel_rfl) (by kernel_rfl) (by kernel_rfl) (fun _ _ _ h => h) (Or.inl ⟨by rfl, ?_⟩) hHeld ?_
            case refine_2 => (intro w hSw; (try dsimp only at hSw); (try (obtain ⟨s0, s1, s2, s3⟩ := hSw)); simp only [List.getElem_cons_zero, List.getElem_cons_succ]; go_simp <;> with_reducible rfl)
            simp only [List.getElem_cons_zero, List.getElem_cons_succ, Act.put, List.setIfInBounds_toArray, List.set_cons_zero, List.set_cons_succ]
            refine held_take 9 (v := ?_) (by simp) (by kernel_rfl) (by kernel_rfl) (by kernel_rfl) (fun _ _ _ h => h) (Or.inl ⟨by rfl, ?_⟩) hHeld ?_
            case refine_2 => (intro w hSw; (try dsimp only at hSw); (try (obtain ⟨s0, s1, s2, s3⟩ := hSw)); simp only [List.getElem_cons_zero, List.getElem_cons_succ]; go_simp <;> with_reducible rfl)
            simp only [List.getElem_cons_zero, List.getElem_cons_succ, Act.put, List.setIfInBounds_toArray, List.set_cons_zero, List.set_cons_succ]
            refine held_take 10 (v := ?_) (by simp) (by kernel_rfl) (by kernel_rfl) (by kernel_rfl) (fun _ _ _ h => h) (Or.inl ⟨by rfl, ?_⟩) hHeld ?_
            case refine_2 => (intro w hSw; (try dsimp only at hSw); (try (obtain ⟨s0, s1, s2, s3⟩ := hSw)); simp only [List.getElem_cons_zero, List.getElem_cons_succ]; go_simp <;> with_reducible rfl)
            simp only [List.getElem_cons_zero, List.getElem_cons_succ, Act.put, List.setIfInBounds_toArray, List.set_cons_zero, List.set_cons_succ]
            refine held_take 11 (v := ?_) (by simp) (by kernel_rfl) (by kernel_rfl) (by kernel_rfl) (fun _ _ _ h => h) (Or.inl ⟨by rfl, ?_⟩) hHeld ?_
            case refine_2 => (intro w hSw; (try dsimp only at hSw); (try (obtain ⟨s0, s1, s2, s3⟩ := hSw)); simp only [List.getElem_cons_zero, List.getElem_cons_succ]; go_simp <;> with_reducible rfl)
            simp only [List.getElem_cons_zero, List.getElem_cons_succ, Act.put, List.setIfInBounds_toArray, List.set_cons_zero, List.set_cons_succ]
            refine held_take 12 (v := ?_) (by simp) (by kernel_rfl) (by kernel_rfl) (by kernel_rfl) (fun _ _ _ h => h) (Or.inl ⟨by rfl, ?_⟩) hHeld ?_
            case refine_2 => (intro w hSw; (try dsimp only at hSw); (try (obtain ⟨s0, s1, s2, s3⟩ := hSw)); simp only [List.getElem_cons_zero, List.getElem_cons_succ]; go_simp <;> with_reducible rfl)
            simp only [List.getElem_cons_zero, List.getElem_cons_succ, Act.put, List.setIfInBounds_toArray, List.set_cons_zero, List.set_cons_succ]
            refine held_take 13 (v := ?_) (by simp) (by kernel_rfl) (by kernel_rfl) (by kernel_rfl) (fun _ _ _ h => h) (Or.inl ⟨by rfl, ?_⟩) hHeld ?_
            case refine_2 => (intro w hSw; (try dsimp only at hSw); (try (obtain ⟨s0, s1, s2, s3⟩ := hSw)); simp only [List.getElem_cons_zero, List.getElem_cons_succ]; go_simp <;> with_reducible rfl)
            simp only [List.getElem_cons_zero, List.getElem_cons_succ, Act.put, List.setIfInBounds_toArray, List.set_cons_zero, List.set_cons_succ]
            refine held_take 14 (v := ?_) (by simp) (by kernel_rfl) (by kernel_rfl) (by kernel_rfl) (fun _ _ _ h => h) (Or.inl ⟨by rfl, ?_⟩) hHeld ?_
            case refine_2 => (intro w hSw; (try dsimp only at hSw); (try (obtain ⟨s0, s1, s2, s3⟩ := hSw)); simp only [List.getElem_cons_zero, List.getElem_cons_succ]; go_simp <;> with_reducible rfl)
            simp only [List.getElem_cons_zero, List.getElem_cons_succ, Act.put, List.setIfInBounds_toArray, List.set_cons_zero, List.set_cons_succ]
            refine held_take 15 (v := ?_) (by simp) (by kernel_rfl) (by kernel_rfl) (by kernel_rfl) (fun _ _ _ h => h) (Or.inl ⟨by rfl, ?_⟩) hHeld ?_
            case refine_2 => (intro w hSw; (try dsimp only at hSw); (try (obtain ⟨s0, s1, s2, s3⟩ := hSw)); simp only [List.getElem_cons_zero, List.getElem_cons_succ]; go_simp <;> with_reducible rfl)
            simp only [List.getElem_cons_zero, List.getElem_cons_succ, Act.put, List.setIfInBounds_toArray, List.set_cons_zero, List.set_cons_succ]
            refine held_take 16 (v := ?_) (by simp) (by kernel_rfl) (by kernel_rfl) (by kernel_rfl) (fun _ _ _ h => h) (Or.inl ⟨by rfl, ?_⟩) hHeld ?_
            case refine_2 => (intro w hSw; (try dsimp only at hSw); (try (obtain ⟨s0, s1, s2, s3⟩ := hSw)); simp only [List.getElem_cons_zero, List.getElem_cons_succ]; go_simp <;> with_reducible rfl)
            simp only [List.getElem_cons_zero, List.getElem_cons_succ, Act.put, List.setIfInBounds_toArray, List.set_cons_zero, List.set_cons_succ]
            refine held_take 17 (v := ?_) (by simp) (by kernel_rfl) (by kernel_rfl) (by kernel_rfl) (fun _ _ _ h => h) (Or.inl ⟨by rfl, ?_⟩) hHeld ?_
            case refine_2 => (intro w hSw; (try dsimp only at hSw); (try (obtain ⟨s0, s1, s2, s3⟩ := hSw)); simp only [List.getElem_cons_zero, List.getElem_cons_succ]; go_simp <;> with_reducible rfl)
            simp only [List.getElem_cons_zero, List.getElem_cons_succ, Act.put, List.setIfInBounds_toArray, List.set_cons_zero, List.set_cons_succ]
            refine held_sole 18 (by simp) (by kernel_rfl) (fun K hK => ?_)
            simp only [List.getElem_cons_zero, List.getElem_cons_succ]
            go_simp
            have hbA : Below wr.heap.size wr (wr.alloc (.cells [Value.int .i64 q.d, Value.int .i64 q.n, Value.int .i64 q.s].toArray 3)).drew := ((Below.refl _ wr).alloc (Nat.le_refl _) _).drew
            have hP6 := hP.out.below hbA (Nat.le_refl _)
            have hrd6 : Rd (wr.alloc (.cells [Value.int .i64 q.d, Value.int .i64 q.n, Value.int .i64 q.s].toArray 3)).drew (wr.alloc (.cells [Value.int .i64 q.d, Value.int .i64 q.n, Value.int .i64 q.s].toArray 3)).drew.heap.size (some ⟨wr.heap.size, 0, none⟩) [.int .i64 q.d, .int .i64 q.n, .int .i64 q.s] := rd_new wr 3 [.int .i64 q.d, .int .i64 q.n, .int .i64 q.s] (by simp)
            have HBA := Lib.hid (hbA.mono (by omega : w.heap.size + 1 ≤ wr.heap.size))
            have s3 := (hbA.cell (p := ⟨w.heap.size, 3, none⟩) (by show w.heap.size < wr.heap.size; omega)).trans b3
            have t0 := (hbA.cell (p := ⟨ad.block, o, none⟩) (by show ad.block < wr.heap.size; omega)).trans p0
            have t1 := (hbA.cell (p := ⟨ad.block, o + 1, none⟩) (by show ad.block < wr.heap.size; omega)).trans p1
            have t2 := (hbA.cell (p := ⟨ad.block, o + 2, none⟩) (by show ad.block < wr.heap.size; omega)).trans p2
            have hvne : Hid (v.ownBlock ≠ some wr.heap.size) := Lib.hid fun e => by have h := (Own.lt hP.out.2 _ e).2; exact absurd h (Nat.lt_irrefl _)
            refine hK.out _ _ ⟨s3, t0, t1, t2⟩ (fun hHeld => ?_)
            clear hK K
            try simp only [Act.put, List.setIfInBounds_toArray, List.set_cons_zero, List.set_cons_succ]
            refine held_sole 19 (by simp) (by kernel_rfl) (fun K hK => ?_)
            simp only [List.getElem_cons_zero, List.getElem_cons_succ]
            rw [if_pos (by rfl)]
            go_simp
            refine (pnums_any (w.heap.size + 1) _ v (some ⟨wr.heap.size, 0, none⟩) [q.d, q.n, q.s] 3 3 rfl _ hP6 hrd6 (fun n hn => by
              simp only [List.mem_cons, List.not_mem_nil, or_false] at hn
              rcases hn with rfl | rfl | rfl
              · exact HW.out.1
              · exact HW.out.2.1
              · exact HW.out.2.2) (by simp) (fun ad2 had2 _ => by
              injection had2 with had2
              subst had2
              exact ⟨by show wr.heap.size ≠ w.heap.size + 1; omega, hvne.out⟩)).mono ?_
            rintro e w5 ⟨v5, rfl, hP5, hb5⟩
            have HP5 : Hid (PgAt w5 (w.heap.size + 1) ((pg2 x).tims (x.tms.take (k + 1))) v5) := Lib.hid (by rw [HST.out]; exact hP5)
            have HB5 := Lib.hid (hB.out.trans (HBA.out.trans hb5))
            have hbm := hb5.mono (Nat.le_succ w.heap.size)
            have s3' := (hb5.cell (p := ⟨w.heap.size, 3, none⟩) (by show w.heap.size < w.heap.size + 1; omega)).trans s3
            have t0' := (hbm.cell (p := ⟨ad.block, o, none⟩) had).trans t0
            have t1' := (hbm.cell (p := ⟨ad.block, o + 1, none⟩) had).trans t1
            have t2' := (hbm.cell (p := ⟨ad.block, o + 2, none⟩) had).trans t2
            clear hP5 hb5 hP6 hrd6 hbA hbm
            go_wp2_with fail
            refine hK.out _ _ ⟨s3', t0', t1', t2'⟩ (fun hHeld => ?_)
            clear hK K
            try simp only [Act.put, List.setIfInBounds_toArray, List.set_cons_zero, List.set_cons_succ]
            refine wpAnyH_done (by kernel_rfl) ?_ _
            go_wp2
            go_roundw
            case rel => exact ⟨k + 1, v5, by omega, by go_num, HP5, HB5⟩
            case measure => simp [intOf]; omega
          · have HPE : Hid (PgAt wr (w.heap.size + 1) ((pg2 x).tims x.tms) v) := Lib.hid (by
              have h := hP.out
              by_cases hkl : k < x.tms.length
              · have hl : lg = true := by
                  cases lg
                  · exact absurd ⟨hkl, rfl⟩ hgo
                  · rfl
                rwa [Pg.tims_end (by rw [← HLG.out]; exact hl)] at h
              · rwa [List.take_of_length_le (by omega)] at h)
            by_cases hkl : k < x.tms.length
            · have hl : lg = true := by
                cases lg
                · exact absurd ⟨hkl, rfl⟩ hgo
                · rfl
              subst hl
              have hltI : (k : Int) < x.tms.length := by omega
              clear hgo
              have hnums := Lib.hid (pnums_any (w.heap.size + 1) _ v (some ⟨wr.heap.size, 0, none⟩) [x.now] 1 1 rfl (wr.alloc (.cells [Value.int .i64 x.now].toArray 3)) (HPE.out.below ((Below.refl _ wr).alloc (Nat.le_refl _) _) (Nat.le_refl _)) (rd_new wr 3 [.int .i64 x.now] (by simp)) (fun n hn => by simp at hn; subst hn; exact HX.out.now) (by simp) (fun ad2 had2 _ => by
                injection had2 with had2
                subst had2
                refine ⟨by show wr.heap.size ≠ w.heap.size + 1; omega, fun e => ?_⟩
                have h := (Own.lt HPE.out.2 _ e).2
                exact absurd h (Nat.lt_irrefl _)))
              have HBA := Lib.hid (((Below.refl wr.heap.size wr).alloc (Nat.le_refl _) (.cells [Value.int .i64 x.now].toArray 3)).mono (by omega : w.heap.size + 1 ≤ wr.heap.size))
              clear hP hbx hri HLG
              go_wp2_with fail
              refine hnums.out.mono ?_
              clear hnums b0 b1 b2 b3 b4 m0 m1 n0 n1
              rintro e w4 ⟨v4, rfl, hP4, hb4⟩
              have HB4 := Lib.hid (hB.out.trans (HBA.out.trans hb4))
              have HP4 : Hid (PgAt w4 (w.heap.size + 1) (pg3 x) v4) := Lib.hid hP4
              clear hP4 hb4 HBA HPE hB
              obtain ⟨A5, c5, hv5, hc5, hm5, hr5⟩ := bs_shape HP4.out.2
              obtain ⟨m0, m1, n0, n1⟩ := blk2_at HP4.out.1
              rw [hv5] at m0
              clear hv5
              have hb4w := (HBOX.out w4 HB4.out).2.2.2
              cases hl3 : (pg3 x).long with
              | true =>
                have HE := Lib.hid (pg3_long hl3)
                rw [hl3] at m1
                have HBW := Lib.hid hb4w
                clear hl3 hb4w hr5
                go_wp2
                go_ret2
                refine ⟨_, ret2 rfl (show Value.int .i64 2 = Value.int .i64 (iE x) by rw [HE.out.2]), ?_, HBW.out⟩
                rw [HE.out.1]
                exact Got.of_own (Own.nil _ _ _)
              | false =>
                have HE := Lib.hid (pg3_short hl3)
                rw [hl3] at m1
                have HBW := Lib.hid hb4w
                have hlen : (pg3 x).b.length ≤ 140737488351232 := pg3_len HX.out.now hl3
                have hclose := Lib.hid (close_any A5 (pg3 x).b (pg3 x).b.length c5 rfl w4 hr5 hlen)
                clear hl3 hb4w hr5
                go_wp2_with fail
                refine hclose.out.mono ?_
                clear hclose m0 m1 n0 n1
                rintro e w5 ⟨v5, rfl, hgot, hb5⟩
                have HF := Lib.hid (And.intro (hgot.mono HBW.out.size) (HBW.out.trans (hb5.mono HBW.out.size)))
                obtain ⟨A6, c6, rfl, -, -, -⟩ := hgot.shape
                clear hgot hb5 HBW
                go_wp2
                go_ret2
                refine ⟨.slice A6 (closeS (pg3 x).b).length c6, ret2 rfl (show Value.int .i64 (closeE (pg3 x).b) = Value.int .i64 (iE x) by rw [HE.out.2]), ?_, HF.out.2⟩
                rw [← HE.out.1]
                exact HF.out.1
            · have hltI : ¬ (k : Int) < x.tms.length := by omega
              clear hgo
              have hnums := Lib.hid (pnums_any (w.heap.size + 1) _ v (some ⟨wr.heap.size, 0, none⟩) [x.now] 1 1 rfl (wr.alloc (.cells [Value.int .i64 x.now].toArray 3)) (HPE.out.below ((Below.refl _ wr).alloc (Nat.le_refl _) _) (Nat.le_refl _)) (rd_new wr 3 [.int .i64 x.now] (by simp)) (fun n hn => by simp at hn; subst hn; exact HX.out.now) (by simp) (fun ad2 had2 _ => by
                injection had2 with had2
                subst had2
                refine ⟨by show wr.heap.size ≠ w.heap.size + 1; omega, fun e => ?_⟩
                have h := (Own.lt HPE.out.2 _ e).2
                exact absurd h (Nat.lt_irrefl _)))
              have HBA := Lib.hid (((Below.refl wr.heap.size wr).alloc (Nat.le_refl _) (.cells [Value.int .i64 x.now].toArray 3)).mono (by omega : w.heap.size + 1 ≤ wr.heap.size))
              clear hP hbx hri HLG
              go_wp2_with fail
              refine hnums.out.mono ?_
              clear hnums b0 b1 b2 b3 b4 m0 m1 n0 n1
              rintro e w4 ⟨v4, rfl, hP4, hb4⟩
              have HB4 := Lib.hid (hB.out.trans (HBA.out.trans hb4))
              have HP4 : Hid (PgAt w4 (w.heap.size + 1) (pg3 x) v4) := Lib.hid hP4
              clear hP4 hb4 HBA HPE hB
              obtain ⟨A5, c5, hv5, hc5, hm5, hr5⟩ := bs_shape HP4.out.2
              obtain ⟨m0, m1, n0, n1⟩ := blk2_at HP4.out.1
              rw [hv5] at m0
              clear hv5
              have hb4w := (HBOX.out w4 HB4.out).2.2.2
              cases hl3 : (pg3 x).long with
              | true =>
                have HE := Lib.hid (pg3_long hl3)
                rw [hl3] at m1
                have HBW := Lib.hid hb4w
                clear hl3 hb4w hr5
                go_wp2
                go_ret2
                refine ⟨_, ret2 rfl (show Value.int .i64 2 = Value.int .i64 (iE x) by rw [HE.out.2]), ?_, HBW.out⟩
                rw [HE.out.1]
                exact Got.of_own (Own.nil _ _ _)
              | false =>
                have HE := Lib.hid (pg3_short hl3)
                rw [hl3] at m1
                have HBW := Lib.hid hb4w
                have hlen : (pg3 x).b.length ≤ 140737488351232 := pg3_len HX.out.now hl3
                have hclose := Lib.hid (close_any A5 (pg3 x).b (pg3 x).b.length c5 rfl w4 hr5 hlen)
                clear hl3 hb4w hr5
                go_wp2_with fail
                refine hclose.out.mono ?_
                clear hclose m0 m1 n0 n1
                rintro e w5 ⟨v5, rfl, hgot, hb5⟩
                have HF := Lib.hid (And.intro (hgot.mono HBW.out.size) (HBW.out.trans (hb5.mono HBW.out.size)))
                obtain ⟨A6, c6, rfl, -, -, -⟩ := hgot.shape
                clear hgot hb5 HBW
                go_wp2
                go_ret2
                refine ⟨.slice A6 (closeS (pg3 x).b).length c6, ret2 rfl (show Value.int .i64 (closeE (pg3 x).b) = Value.int .i64 (iE x) by rw [HE.out.2]), ?_, HF.out.2⟩
                rw [← HE.out.1]
                exact HF.out.1
      · have hltI : ¬ (k : Int) < x.past.length := by omega
        clear hgo hP hbx hri HLG
        have hmany := Lib.hid (pmany_any (w.heap.size + 1) _ _ x.tms.length wr HPE.out (by omega))
        obtain ⟨wo, rfl⟩ : ∃ wo : World, wo = wr := ⟨_, rfl⟩
        go_wp2_with fail
        refine hmany.out.mono ?_
        clear hmany b0 b1 b2 b3 b4 HPE m0 m1 n0 n1
        rintro e w4 ⟨v4, rfl, hP4, hb4⟩
        have HB4 := Lib.hid (hB.out.trans hb4)
        have HP4 : Hid (PgAt w4 (w.heap.size + 1) (pg2 x) v4) := Lib.hid hP4
        clear hP4 hb4 hB
        go_wp2_with fail
        go_loopw [6] (fun n wr => ∃ (k : Nat) (v : Value), k ≤ x.tms.length ∧ n = .int .i64 k ∧ Hid (PgAt wr (w.heap.size + 1) ((pg2 x).tims (x.tms.take k)) v) ∧ Hid (Below (w.heap.size + 1) W0 wr)) (fun n _ => x.tms.length - (intOf n).toNat)
        case atStart => exact ⟨0, v4, by omega, rfl, HP4, HB4⟩
        case round =>
          obtain ⟨k, v, hk, rfl, hP, hB⟩ := hrel
          clear HP4 HB4
          obtain ⟨hbx, hri, hsz, hbw⟩ := HBOX.out wr hB.out
          obtain ⟨b0, b1, b2, b3, b4⟩ := five_at hbx
          obtain ⟨m0, m1, n0, n1⟩ := blk2_at hP.out.1
          obtain ⟨lg, hlg⟩ : ∃ b, b = ((pg2 x).tims (x.tms.take k)).long := ⟨_, rfl⟩
          rw [← hlg] at m1
          have HLG := Lib.hid hlg
          clear hlg
          by_cases hgo : k < x.tms.length ∧ lg = false
          · obtain ⟨hlt, rfl⟩ := hgo
            have hltI : (k : Int) < x.tms.length := by omega
            obtain ⟨ad, rfl, had, o, hao, p0, p1, p2⟩ := hri.tms k hlt
            have HW := Lib.hid (HX.out.tms _ (List.getElem_mem hlt))
            have HST := Lib.hid (Pg.tims_step (p := pg2 x) hlt)
            generalize x.tms[k] = q at p0 p1 p2 HW HST
            clear hbx hri
            go_wp2_with fail
            refine wp_region_held_drew (S := fun W => W.cell? ⟨w.heap.size, 3, none⟩ = some (.slice (some ad) x.tms.length c4) ∧ W.cell? ⟨ad.block, o, none⟩ = some (.int .i64 q.d) ∧ W.cell? ⟨ad.block, o + 1, none⟩ = some (.int .i64 q.n) ∧ W.cell? ⟨ad.block, o + 2, none⟩ = some (.int .i64 q.s)) (by kernel_rfl) ⟨b3, p0, p1, p2⟩ (fun hHeld => ?_)
            refine held_take 0 (v := ?_) (by simp) (by kernel_rfl) (by kernel_rfl) (by kernel_rfl) (fun _ _ _ h => h) (Or.inl ⟨by rfl, ?_⟩) hHeld ?_
            case refine_2 => (intro w hSw; (try dsimp only at hSw); (try (obtain ⟨s0, s1, s2, s3⟩ := hSw)); simp only [List.getElem_cons_zero]; go_simp <;> with_reducible rfl)
            simp only [List.getElem_cons_zero, Act.put, List.setIfInBounds_toArray, List.set_cons_zero, List.set_cons_succ]
            refine held_take 1 (v := ?_) (by simp) (by kernel_rfl) (by kernel_rfl) (by kernel_rfl) (fun _ _ _ h => h) (Or.inl ⟨by rfl, ?_⟩) hHeld ?_
            case refine_2 => (intro w hSw; (try dsimp only at hSw); (try (obtain ⟨s0, s1, s2, s3⟩ := hSw)); simp only [List.getElem_cons_zero, List.getElem_cons_succ]; go_simp <;> with_reducible rfl)
            simp only [List.getElem_cons_zero, List.getElem_cons_succ, Act.put, List.setIfInBounds_toArray, List.set_cons_zero, List.set_cons_succ]
            refine held_take 2 (v := ?_) (by simp) (by kernel_rfl) (by kernel_rfl) (by kernel_rfl) (fun _ _ _ h => h) (Or.inl ⟨by rfl, ?_⟩) hHeld ?_
            case refine_2 => (intro w hSw; (try dsimp only at hSw); (try (obtain ⟨s0, s1, s2, s3⟩ := hSw)); simp only [List.getElem_cons_zero, List.getElem_cons_succ]; go_simp <;> with_reducible rfl)
            simp only [List.getElem_cons_zero, List.getElem_cons_succ, Act.put, List.setIfInBounds_toArray, List.set_cons_zero, List.set_cons_succ]
            refine held_take 3 (v := ?_) (by simp) (by kernel_rfl) (by kernel_rfl) (by kernel_rfl) (fun _ _ _ h => h) (Or.inl ⟨by rfl, ?_⟩) hHeld ?_
            case refine_2 => (intro w hSw; (try dsimp only at hSw); (try (obtain ⟨s0, s1, s2, s3⟩ := hSw)); simp only [List.getElem_cons_zero, List.getElem_cons_succ]; go_simp <;> with_reducible rfl)
            simp only [List.getElem_cons_zero, List.getElem_cons_succ, Act.put, List.setIfInBounds_toArray, List.set_cons_zero, List.set_cons_succ]
            refine held_take 4 (v := ?_) (by simp) (by kernel_rfl) (by kernel_rfl) (by kernel_rfl) (fun _ _ _ h => h) (Or.inl ⟨by rfl, ?_⟩) hHeld ?_
            case refine_2 => (intro w hSw; (try dsimp only at hSw); (try (obtain ⟨s0, s1, s2, s3⟩ := hSw)); simp only [List.getElem_cons_zero, List.getElem_cons_succ]; go_simp <;> with_reducible rfl)
            simp only [List.getElem_cons_zero, List.getElem_cons_succ, Act.put, List.setIfInBounds_toArray, List.set_cons_zero, List.set_cons_succ]
            refine held_take 5 (v := ?_) (by simp) (by kernel_rfl) (by kernel_rfl) (by kernel_rfl) (fun _ _ _ h => h) (Or.inl ⟨by rfl, ?_⟩) hHeld ?_
            case refine_2 => (intro w hSw; (try dsimp only at hSw); (try (obtain ⟨s0, s1, s2, s3⟩ := hSw)); simp only [List.getElem_cons_zero, List.getElem_cons_succ]; go_simp <;> with_reducible rfl)
            simp only [List.getElem_cons_zero, List.getElem_cons_succ, Act.put, List.setIfInBounds_toArray, List.set_cons_zero, List.set_cons_succ]
            refine held_take 6 (v := ?_) (by simp) (by kernel_rfl) (by kernel_rfl) (by kernel_rfl) (fun _ _ _ h => h) (Or.inl ⟨by rfl, ?_⟩) hHeld ?_
            case refine_2 => (intro w hSw; (try dsimp only at hSw); (try (obtain ⟨s0, s1, s2, s3⟩ := hSw)); simp only [List.getElem_cons_zero, List.getElem_cons_succ]; go_simp <;> with_reducible rfl)
            simp only [List.getElem_cons_zero, List.getElem_cons_succ, Act.put, List.setIfInBounds_toArray, List.set_cons_zero, List.set_cons_succ]
            refine held_take 7 (v := ?_) (by simp) (by kernel_rfl) (by kernel_rfl) (by kernel_rfl) (fun _ _ _ h => h) (Or.inl ⟨by rfl, ?_⟩) hHeld ?_
            case refine_2 => (intro w hSw; (try dsimp only at hSw); (try (obtain ⟨s0, s1, s2, s3⟩ := hSw)); simp only [List.getElem_cons_zero, List.getElem_cons_succ]; go_simp <;> with_reducible rfl)
            simp only [List.getElem_cons_zero, List.getElem_cons_succ, Act.put, List.setIfInBounds_toArray, List.set_cons_zero, List.set_cons_succ]
            refine held_take 8 (v := ?_) (by simp) (by kernel_rfl) (by kernel_rfl) (by kernel_rfl) (fun _ _ _ h => h) (Or.inl ⟨by rfl, ?_⟩) hHeld ?_
            case refine_2 => (intro w hSw; (try dsimp only at hSw); (try (obtain ⟨s0, s1, s2, s3⟩ := hSw)); simp only [List.getElem_cons_zero, List.getElem_cons_succ]; go_simp <;> with_reducible rfl)
            simp only [List.getElem_cons_zero, List.getElem_cons_succ, Act.put, List.setIfInBounds_toArray, List.set_cons_zero, List.set_cons_succ]
            refine held_take 9 (v := ?_) (by simp) (by kernel_rfl) (by kernel_rfl) (by kernel_rfl) (fun _ _ _ h => h) (Or.inl ⟨by rfl, ?_⟩) hHeld ?_
            case refine_2 => (intro w hSw; (try dsimp only at hSw); (try (obtain ⟨s0, s1, s2, s3⟩ := hSw)); simp only [List.getElem_cons_zero, List.getElem_cons_succ]; go_simp <;> with_reducible rfl)
            simp only [List.getElem_cons_zero, List.getElem_cons_succ, Act.put, List.setIfInBounds_toArray, List.set_cons_zero, List.set_cons_succ]
            refine held_take 10 (v := ?_) (by simp) (by kernel_rfl) (by kernel_rfl) (by kernel_rfl) (fun _ _ _ h => h) (Or.inl ⟨by rfl, ?_⟩) hHeld ?_
            case refine_2 => (intro w hSw; (try dsimp only at hSw); (try (obtain ⟨s0, s1, s2, s3⟩ := hSw)); simp only [List.getElem_cons_zero, List.getElem_cons_succ]; go_simp <;> with_reducible rfl)
            simp only [List.getElem_cons_zero, List.getElem_cons_succ, Act.put, List.setIfInBounds_toArray, List.set_cons_zero, List.set_cons_succ]
            refine held_take 11 (v := ?_) (by simp) (by kernel_rfl) (by kernel_rfl) (by kernel_rfl) (fun _ _ _ h => h) (Or.inl ⟨by rfl, ?_⟩) hHeld ?_
            case refine_2 => (intro w hSw; (try dsimp only at hSw); (try (obtain ⟨s0, s1, s2, s3⟩ := hSw)); simp only [List.getElem_cons_zero, List.getElem_cons_succ]; go_simp <;> with_reducible rfl)
            simp only [List.getElem_cons_zero, List.getElem_cons_succ, Act.put, List.setIfInBounds_toArray, List.set_cons_zero, List.set_cons_succ]
            refine held_take 12 (v := ?_) (by simp) (by kernel_rfl) (by kernel_rfl) (by kernel_rfl) (fun _ _ _ h => h) (Or.inl ⟨by rfl, ?_⟩) hHeld ?_
            case refine_2 => (intro w hSw; (try dsimp only at hSw); (try (obtain ⟨s0, s1, s2, s3⟩ := hSw)); simp only [List.getElem_cons_zero, List.getElem_cons_succ]; go_simp <;> with_reducible rfl)
            simp only [List.getElem_cons_zero, List.getElem_cons_succ, Act.put, List.setIfInBounds_toArray, List.set_cons_zero, List.set_cons_succ]
            refine held_take 13 (v := ?_) (by simp) (by kernel_rfl) (by kernel_rfl) (by kernel_rfl) (fun _ _ _ h => h) (Or.inl ⟨by rfl, ?_⟩) hHeld ?_
            case refine_2 => (intro w hSw; (try dsimp only at hSw); (try (obtain ⟨s0, s1, s2, s3⟩ := hSw)); simp only [List.getElem_cons_zero, List.getElem_cons_succ]; go_simp <;> with_reducible rfl)
            simp only [List.getElem_cons_zero, List.getElem_cons_succ, Act.put, List.setIfInBounds_toArray, List.set_cons_zero, List.set_cons_succ]
            refine held_take 14 (v := ?_) (by simp) (by kernel_rfl) (by kernel_rfl) (by kernel_rfl) (fun _ _ _ h => h) (Or.inl ⟨by rfl, ?_⟩) hHeld ?_
            case refine_2 => (intro w hSw; (try dsimp only at hSw); (try (obtain ⟨s0, s1, s2, s3⟩ := hSw)); simp only [List.getElem_cons_zero, List.getElem_cons_succ]; go_simp <;> with_reducible rfl)
            simp only [List.getElem_cons_zero, List.getElem_cons_succ, Act.put, List.setIfInBounds_toArray, List.set_cons_zero, List.set_cons_succ]
            refine held_take 15 (v := ?_) (by simp) (by kernel_rfl) (by kernel_rfl) (by kernel_rfl) (fun _ _ _ h => h) (Or.inl ⟨by rfl, ?_⟩) hHeld ?_
            case refine_2 => (intro w hSw; (try dsimp only at hSw); (try (obtain ⟨s0, s1, s2, s3⟩ := hSw)); simp only [List.getElem_cons_zero, List.getElem_cons_succ]; go_simp <;> with_reducible rfl)
            simp only [List.getElem_cons_zero, List.getElem_cons_succ, Act.put, List.setIfInBounds_toArray, List.set_cons_zero, List.set_cons_succ]
            refine held_take 16 (v := ?_) (by simp) (by kernel_rfl) (by kernel_rfl) (by kernel_rfl) (fun _ _ _ h => h) (Or.inl ⟨by rfl, ?_⟩) hHeld ?_
            case refine_2 => (intro w hSw; (try dsimp only at hSw); (try (obtain ⟨s0, s1, s2, s3⟩ := hSw)); simp only [List.getElem_cons_zero, List.getElem_cons_succ]; go_simp <;> with_reducible rfl)
            simp only [List.getElem_cons_zero, List.getElem_cons_succ, Act.put, List.setIfInBounds_toArray, List.set_cons_zero, List.set_cons_succ]
            refine held_take 17 (v := ?_) (by simp) (by kernel_rfl) (by kernel_rfl) (by kernel_rfl) (fun _ _ _ h => h) (Or.inl ⟨by rfl, ?_⟩) hHeld ?_
            case refine_2 => (intro w hSw; (try dsimp only at hSw); (try (obtain ⟨s0, s1, s2, s3⟩ := hSw)); simp only [List.getElem_cons_zero, List.getElem_cons_succ]; go_simp <;> with_reducible rfl)
            simp only [List.getElem_cons_zero, List.getElem_cons_succ, Act.put, List.setIfInBounds_toArray, List.set_cons_zero, List.set_cons_succ]
            refine held_sole 18 (by simp) (by kernel_rfl) (fun K hK => ?_)
            simp only [List.getElem_cons_zero, List.getElem_cons_succ]
            go_simp
            have hbA : Below wr.heap.size wr (wr.alloc (.cells [Value.int .i64 q.d, Value.int .i64 q.n, Value.int .i64 q.s].toArray 3)).drew := ((Below.refl _ wr).alloc (Nat.le_refl _) _).drew
            have hP6 := hP.out.below hbA (Nat.le_refl _)
            have hrd6 : Rd (wr.alloc (.cells [Value.int .i64 q.d, Value.int .i64 q.n, Value.int .i64 q.s].toArray 3)).drew (wr.alloc (.cells [Value.int .i64 q.d, Value.int .i64 q.n, Value.int .i64 q.s].toArray 3)).drew.heap.size (some ⟨wr.heap.size, 0, none⟩) [.int .i64 q.d, .int .i64 q.n, .int .i64 q.s] := rd_new wr 3 [.int .i64 q.d, .int .i64 q.n, .int .i64 q.s] (by simp)
            have HBA := Lib.hid (hbA.mono (by omega : w.heap.size + 1 ≤ wr.heap.size))
            have s3 := (hbA.cell (p := ⟨w.heap.size, 3, none⟩) (by show w.heap.size < wr.heap.size; omega)).trans b3
            have t0 := (hbA.cell (p := ⟨ad.block, o, none⟩) (by show ad.block < wr.heap.size; omega)).trans p0
            have t1 := (hbA.cell (p := ⟨ad.block, o + 1, none⟩) (by show ad.block < wr.heap.size; omega)).trans p1
            have t2 := (hbA.cell (p := ⟨ad.block, o + 2, none⟩) (by show ad.block < wr.heap.size; omega)).trans p2
            have hvne : Hid (v.ownBlock ≠ some wr.heap.size) := Lib.hid fun e => by have h := (Own.lt hP.out.2 _ e).2; exact absurd h (Nat.lt_irrefl _)
            refine hK.out _ _ ⟨s3, t0, t1, t2⟩ (fun hHeld => ?_)
            clear hK K
            try simp only [Act.put, List.setIfInBounds_toArray, List.set_cons_zero, List.set_cons_succ]
            refine held_sole 19 (by simp) (by kernel_rfl) (fun K hK => ?_)
            simp only [List.getElem_cons_zero, List.getElem_cons_succ]
            rw [if_pos (by rfl)]
            go_simp
            refine (pnums_any (w.heap.size + 1) _ v (some ⟨wr.heap.size, 0, none⟩) [q.d, q.n, q.s] 3 3 rfl _ hP6 hrd6 (fun n hn => by
              simp only [List.mem_cons, List.not_mem_nil, or_false] at hn
              rcases hn with rfl | rfl | rfl
              · exact HW.out.1
              · exact HW.out.2.1
              · exact HW.out.2.2) (by simp) (fun ad2 had2 _ => by
              injection had2 with had2
              subst had2
              exact ⟨by show wr.heap.size ≠ w.heap.size + 1; omega, hvne.out⟩)).mono ?_
            rintro e w5 ⟨v5, rfl, hP5, hb5⟩
            have HP5 : Hid (PgAt w5 (w.heap.size + 1) ((pg2 x).tims (x.tms.take (k + 1))) v5) := Lib.hid (by rw [HST.out]; exact hP5)
            have HB5 := Lib.hid (hB.out.trans (HBA.out.trans hb5))
            have hbm := hb5.mono (Nat.le_succ w.heap.size)
            have s3' := (hb5.cell (p := ⟨w.heap.size, 3, none⟩) (by show w.heap.size < w.heap.size + 1; omega)).trans s3
            have t0' := (hbm.cell (p := ⟨ad.block, o, none⟩) had).trans t0
            have t1' := (hbm.cell (p := ⟨ad.block, o + 1, none⟩) had).trans t1
            have t2' := (hbm.cell (p := ⟨ad.block, o + 2, none⟩) had).trans t2
            clear hP5 hb5 hP6 hrd6 hbA hbm
            go_wp2_with fail
            refine hK.out _ _ ⟨s3', t0', t1', t2'⟩ (fun hHeld => ?_)
            clear hK K
            try simp only [Act.put, List.setIfInBounds_toArray, List.set_cons_zero, List.set_cons_succ]
            refine wpAnyH_done (by kernel_rfl) ?_ _
            go_wp2
            go_roundw
            case rel => exact ⟨k + 1, v5, by omega, by go_num, HP5, HB5⟩
            case measure => simp [intOf]; omega
          · have HPE : Hid (PgAt wr (w.heap.size + 1) ((pg2 x).tims x.tms) v) := Lib.hid (by
              have h := hP.out
              by_cases hkl : k < x.tms.length
              · have hl : lg = true := by
                  cases lg
                  · exact absurd ⟨hkl, rfl⟩ hgo
                  · rfl
                rwa [Pg.tims_end (by rw [← HLG.out]; exact hl)] at h
              · rwa [List.take_of_length_le (by omega)] at h)
            by_cases hkl : k < x.tms.length
            · have hl : lg = true := by
                cases lg
                · exact absurd ⟨hkl, rfl⟩ hgo
                · rfl
              subst hl
              have hltI : (k : Int) < x.tms.length := by omega
              clear hgo
              have hnums := Lib.hid (pnums_any (w.heap.size + 1) _ v (some ⟨wr.heap.size, 0, none⟩) [x.now] 1 1 rfl (wr.alloc (.cells [Value.int .i64 x.now].toArray 3)) (HPE.out.below ((Below.refl _ wr).alloc (Nat.le_refl _) _) (Nat.le_refl _)) (rd_new wr 3 [.int .i64 x.now] (by simp)) (fun n hn => by simp at hn; subst hn; exact HX.out.now) (by simp) (fun ad2 had2 _ => by
                injection had2 with had2
                subst had2
                refine ⟨by show wr.heap.size ≠ w.heap.size + 1; omega, fun e => ?_⟩
                have h := (Own.lt HPE.out.2 _ e).2
                exact absurd h (Nat.lt_irrefl _)))
              have HBA := Lib.hid (((Below.refl wr.heap.size wr).alloc (Nat.le_refl _) (.cells [Value.int .i64 x.now].toArray 3)).mono (by omega : w.heap.size + 1 ≤ wr.heap.size))
              clear hP hbx hri HLG
              go_wp2_with fail
              refine hnums.out.mono ?_
              clear hnums b0 b1 b2 b3 b4 m0 m1 n0 n1
              rintro e w4 ⟨v4, rfl, hP4, hb4⟩
              have HB4 := Lib.hid (hB.out.trans (HBA.out.trans hb4))
              have HP4 : Hid (PgAt w4 (w.heap.size + 1) (pg3 x) v4) := Lib.hid hP4
              clear hP4 hb4 HBA HPE hB
              obtain ⟨A5, c5, hv5, hc5, hm5, hr5⟩ := bs_shape HP4.out.2
              obtain ⟨m0, m1, n0, n1⟩ := blk2_at HP4.out.1
              rw [hv5] at m0
              clear hv5
              have hb4w := (HBOX.out w4 HB4.out).2.2.2
              cases hl3 : (pg3 x).long with
              | true =>
                have HE := Lib.hid (pg3_long hl3)
                rw [hl3] at m1
                have HBW := Lib.hid hb4w
                clear hl3 hb4w hr5
                go_wp2
                go_ret2
                refine ⟨_, ret2 rfl (show Value.int .i64 2 = Value.int .i64 (iE x) by rw [HE.out.2]), ?_, HBW.out⟩
                rw [HE.out.1]
                exact Got.of_own (Own.nil _ _ _)
              | false =>
                have HE := Lib.hid (pg3_short hl3)
                rw [hl3] at m1
                have HBW := Lib.hid hb4w
                have hlen : (pg3 x).b.length ≤ 140737488351232 := pg3_len HX.out.now hl3
                have hclose := Lib.hid (close_any A5 (pg3 x).b (pg3 x).b.length c5 rfl w4 hr5 hlen)
                clear hl3 hb4w hr5
                go_wp2_with fail
                refine hclose.out.mono ?_
                clear hclose m0 m1 n0 n1
                rintro e w5 ⟨v5, rfl, hgot, hb5⟩
                have HF := Lib.hid (And.intro (hgot.mono HBW.out.size) (HBW.out.trans (hb5.mono HBW.out.size)))
                obtain ⟨A6, c6, rfl, -, -, -⟩ := hgot.shape
                clear hgot hb5 HBW
                go_wp2
                go_ret2
                refine ⟨.slice A6 (closeS (pg3 x).b).length c6, ret2 rfl (show Value.int .i64 (closeE (pg3 x).b) = Value.int .i64 (iE x) by rw [HE.out.2]), ?_, HF.out.2⟩
                rw [← HE.out.1]
                exact HF.out.1
            · have hltI : ¬ (k : Int) < x.tms.length := by omega
              clear hgo
              have hnums := Lib.hid (pnums_any (w.heap.size + 1) _ v (some ⟨wr.heap.size, 0, none⟩) [x.now] 1 1 rfl (wr.alloc (.cells [Value.int .i64 x.now].toArray 3)) (HPE.out.below ((Below.refl _ wr).alloc (Nat.le_refl _) _) (Nat.le_refl _)) (rd_new wr 3 [.int .i64 x.now] (by simp)) (fun n hn => by simp at hn; subst hn; exact HX.out.now) (by simp) (fun ad2 had2 _ => by
                injection had2 with had2
                subst had2
                refine ⟨by show wr.heap.size ≠ w.heap.size + 1; omega, fun e => ?_⟩
                have h := (Own.lt HPE.out.2 _ e).2
                exact absurd h (Nat.lt_irrefl _)))
              have HBA := Lib.hid (((Below.refl wr.heap.size wr).alloc (Nat.le_refl _) (.cells [Value.int .i64 x.now].toArray 3)).mono (by omega : w.heap.size + 1 ≤ wr.heap.size))
              clear hP hbx hri HLG
              go_wp2_with fail
              refine hnums.out.mono ?_
              clear hnums b0 b1 b2 b3 b4 m0 m1 n0 n1
              rintro e w4 ⟨v4, rfl, hP4, hb4⟩
              have HB4 := Lib.hid (hB.out.trans (HBA.out.trans hb4))
              have HP4 : Hid (PgAt w4 (w.heap.size + 1) (pg3 x) v4) := Lib.hid hP4
              clear hP4 hb4 HBA HPE hB
              obtain ⟨A5, c5, hv5, hc5, hm5, hr5⟩ := bs_shape HP4.out.2
              obtain ⟨m0, m1, n0, n1⟩ := blk2_at HP4.out.1
              rw [hv5] at m0
              clear hv5
              have hb4w := (HBOX.out w4 HB4.out).2.2.2
              cases hl3 : (pg3 x).long with
              | true =>
                have HE := Lib.hid (pg3_long hl3)
                rw [hl3] at m1
                have HBW := Lib.hid hb4w
                clear hl3 hb4w hr5
                go_wp2
                go_ret2
                refine ⟨_, ret2 rfl (show Value.int .i64 2 = Value.int .i64 (iE x) by rw [HE.out.2]), ?_, HBW.out⟩
                rw [HE.out.1]
                exact Got.of_own (Own.nil _ _ _)
              | false =>
                have HE := Lib.hid (pg3_short hl3)
                rw [hl3] at m1
                have HBW := Lib.hid hb4w
                have hlen : (pg3 x).b.length ≤ 140737488351232 := pg3_len HX.out.now hl3
                have hclose := Lib.hid (close_any A5 (pg3 x).b (pg3 x).b.length c5 rfl w4 hr5 hlen)
                clear hl3 hb4w hr5
                go_wp2_with fail
                refine hclose.out.mono ?_
                clear hclose m0 m1 n0 n1
                rintro e w5 ⟨v5, rfl, hgot, hb5⟩
                have HF := Lib.hid (And.intro (hgot.mono HBW.out.size) (HBW.out.trans (hb5.mono HBW.out.size)))
                obtain ⟨A6, c6, rfl, -, -, -⟩ := hgot.shape
                clear hgot hb5 HBW
                go_wp2
                go_ret2
                refine ⟨.slice A6 (closeS (pg3 x).b).length c6, ret2 rfl (show Value.int .i64 (closeE (pg3 x).b) = Value.int .i64 (iE x) by rw [HE.out.2]), ?_, HF.out.2⟩
                rw [← HE.out.1]
                exact HF.out.1
end Go.Proofs.Ytaadbklimfngiaa
