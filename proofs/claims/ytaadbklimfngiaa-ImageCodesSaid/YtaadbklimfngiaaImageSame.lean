/- Two instances that are one (pavaneref15.Same and what it asks). Condition: both can be read and hold the same. -/
import Derived.Test.YtaadbklimfngiaaOpenI
import Derived.Test.YtaadbklimfngiaaKeepRead
set_option linter.unusedVariables false
namespace Go.Proofs.Ytaadbklimfngiaa
open Go.RowKit Oct

theorem selfSame_any (A B : Option Addr) (z : List Int) (c d K : Nat) (w : World) (ha : Rd w K A (z.map (Value.int .i64))) (hb : Rd w K B (z.map (Value.int .i64))) (hz : z.length ≤ 4611686018427387904) :
    Calls Try.prog 41 #[.slice A z.length c, .slice B z.length d] w fun e w' => e = .returned (.bool true) ∧ Below w.heap.size w w' :=
  (same_any A B z z c d K w ha hb hz hz).mono fun e w' h => ⟨by rw [h.1, decide_eq_true rfl], h.2⟩

set_option maxHeartbeats 1000000 in
set_option maxRecDepth 100000 in
theorem timSame_any (ts : List TimD) (A B : Option Addr) (n c m d K : Nat) (hn : n = ts.length) (hm : m = ts.length) (w : World) (ha : TimRd w K A ts) (hb : TimRd w K B ts) (hK : K ≤ w.heap.size) (hl : ts.length ≤ 4611686018427387904) :
    Calls Try.prog 108 #[.slice A n c, .slice B m d] w fun e w' => e = .returned (.bool true) ∧ Below w.heap.size w w' := by
  subst hn
  rw [hm]
  have HA := Lib.hid ha
  have HB := Lib.hid hb
  clear hm ha hb
  go_enter Try.func108, Try.ntmps108
  go_wp2_with fail
  go_loopw [5] (fun n wr => ∃ k : Nat, k ≤ ts.length ∧ n = .int .i64 k ∧ Below w.heap.size w wr) (fun n _ => ts.length - (intOf n).toNat)
  case atStart => exact ⟨0, by omega, rfl, Below.refl _ _⟩
  case round =>
    obtain ⟨k, hk, rfl, hb⟩ := hrel
    by_cases hlt : k < ts.length
    · obtain ⟨ad, rfl, had, o, hao, a0, a1, a2⟩ := (HA.out.below hb hK) k hlt
      obtain ⟨bd, rfl, hbd, o', hbo, b0, b1, b2⟩ := (HB.out.below hb hK) k hlt
      have hltI : (k : Int) < ts.length := by omega
      generalize ts[k] = q at a0 a1 a2 b0 b1 b2
      clear HA HB
      go_wp2_with fail
      go_quiet (fail)
      go_wp2
      go_roundw
      case rel => exact ⟨k + 1, by omega, by go_num, below_drewN hb _⟩
      case measure => simp [intOf]; omega
    · clear HA HB
      go_wp2
      go_ret
      exact ⟨rfl, hb⟩
set_option maxHeartbeats 1000000 in
set_option maxRecDepth 100000 in
theorem pastSame_any (ps : List PastD) (A B : Option Addr) (n c m d K : Nat) (hn : n = ps.length) (hm : m = ps.length) (w : World) (ha : PastRd w K A ps) (hb : PastRd w K B ps) (hKw : K ≤ w.heap.size) (hl : ps.length ≤ 4611686018427387904) (hz : ∀ p ∈ ps, p.z.length ≤ 4611686018427387904) :
    Calls Try.prog 107 #[.slice A n c, .slice B m d] w fun e w' => e = .returned (.bool true) ∧ Below w.heap.size w w' := by
  subst hn
  rw [hm]
  have HA := Lib.hid ha
  have HB := Lib.hid hb
  have HZ := Lib.hid hz
  clear hm ha hb hz
  go_enter Try.func107, Try.ntmps107
  go_wp2_with fail
  go_loopw [5] (fun n wr => ∃ k : Nat, k ≤ ps.length ∧ n = .int .i64 k ∧ Below w.heap.size w wr) (fun n _ => ps.length - (intOf n).toNat)
  case atStart => exact ⟨0, by omega, rfl, Below.refl _ _⟩
  case round =>
    obtain ⟨k, hk, rfl, hb⟩ := hrel
    by_cases hlt : k < ps.length
    · obtain ⟨ad, rfl, had, o, A', c', hao, a0, a1, ard, ale, acap⟩ := (HA.out.below hb hKw) k hlt
      obtain ⟨bd, rfl, hbd, o', B', d', hbo, b0, b1, brd, ble, bcap⟩ := (HB.out.below hb hKw) k hlt
      have hltI : (k : Int) < ps.length := by omega
      have hzl := HZ.out _ (List.getElem_mem hlt)
      generalize ps[k] = q at a0 a1 ard b0 b1 brd hzl
      have HR := Lib.hid (And.intro ard brd)
      have hsz : K ≤ wr.heap.size := by have := hb.size; omega
      clear HA HB HZ ard brd
      go_wp2_with fail
      refine wp_region_held_drew (S := fun W => W.cell? ⟨ad.block, o, none⟩ = some (.int .i64 q.n) ∧ W.cell? ⟨ad.block, o + 1, none⟩ = some (.slice A' q.z.length c') ∧ W.cell? ⟨bd.block, o', none⟩ = some (.int .i64 q.n) ∧ W.cell? ⟨bd.block, o' + 1, none⟩ = some (.slice B' q.z.length d')) (by kernel_rfl) ⟨a0, a1, b0, b1⟩ (fun hHeld => ?_)
      refine held_take 0 (v := ?_) (by simp) (by kernel_rfl) (by kernel_rfl) (by kernel_rfl) (fun _ _ _ h => h) (Or.inl ⟨by rfl, ?_⟩) hHeld ?_
      case refine_2 => (intro w hSw; (try dsimp only at hSw); (try (obtain ⟨s0, s1, s2, s3⟩ := hSw)); simp only [List.getElem_cons_zero]; go_simp <;> with_reducible rfl)
      simp only [List.getElem_cons_zero, Act.put, List.setIfInBounds_toArray, List.set_cons_zero, List.set_cons_succ]
      refine held_take 1 (v := ?_) (by simp) (by kernel_rfl) (by kernel_rfl) (by kernel_rfl) (fun _ _ _ h => h) (Or.inl ⟨by rfl, ?_⟩) hHeld ?_
      case refine_2 => (intro w hSw; (try dsimp only at hSw); (try (obtain ⟨s0, s1, s2, s3⟩ := hSw)); simp only [List.getElem_cons_zero, List.getElem_cons_succ]; go_simp <;> with_reducible rfl)
      simp only [List.getElem_cons_zero, List.getElem_cons_succ, Act.put, List.setIfInBounds_toArray, List.set_cons_zero, List.set_cons_succ]
      refine held_take 2 (v := ?_) (by simp) (by kernel_rfl) (by kernel_rfl) (by kernel_rfl) (fun _ _ _ h => h) (Or.inl ⟨by rfl, ?_⟩) hHeld ?_
      case refine_2 => (intro w hSw; (try dsimp only at hSw); (try (obtain ⟨s0, s1, s2, s3⟩ := hSw)); simp only [List.getElem_cons_zero, List.getElem_cons_succ]; go_simp <;> with_reducible rfl)
      simp only [List.getElem_cons_zero, List.getElem_cons_succ, Act.put, List.setIfInBounds_toArray, List.set_cons_zero, List.set_cons_succ]
      refine held_take 3 (v := ?_) (by simp) (by kernel_rfl) (by kernel_rfl) (by kernel_rfl) (fun _ _ _ h => h) (Or.inl ⟨by rfl, ?_⟩) hHeld ?_
      case refine_2 => (intro w hSw; (try dsimp only at hSw); (try (obtain ⟨s0, s1, s2, s3⟩ := hSw)); simp only [List.getElem_cons_zero, List.getElem_cons_succ]; go_simp <;> with_reducible rfl)
      simp only [List.getElem_cons_zero, List.getElem_cons_succ, Act.put, List.setIfInBounds_toArray, List.set_cons_zero, List.set_cons_succ]
      refine held_take 4 (v := ?_) (by simp) (by kernel_rfl) (by kernel_rfl) (by kernel_rfl) (fun _ _ _ h => h) (Or.inl ⟨by rfl, ?_⟩) hHeld ?_
      case refine_2 => (intro w hSw; (try dsimp only at hSw); (try (obtain ⟨s0, s1, s2, s3⟩ := hSw)); simp only [List.getElem_cons_zero, List.getElem_cons_succ]; go_simp <;> with_reducible rfl)
      simp only [List.getElem_cons_zero, List.getElem_cons_succ, Act.put, List.setIfInBounds_toArray, List.set_cons_zero, List.set_cons_succ]
      refine held_take 5 (v := ?_) (by simp) (by kernel_rfl) (by kernel_rfl) (by kernel_rfl) (fun _ _ _ h => h) (Or.inl ⟨by rfl, ?_⟩) hHeld ?_
      case refine_2 => (intro w hSw; (try dsimp only at hSw); (try (obtain ⟨s0, s1, s2, s3⟩ := hSw)); simp only [List.getElem_cons_zero, List.getElem_cons_succ]; go_simp <;> with_reducible rfl)
      simp only [List.getElem_cons_zero, List.getElem_cons_succ, Act.put, List.setIfInBounds_toArray, List.set_cons_zero, List.set_cons_succ]
      refine held_take 6 (v := ?_) (by simp) (by kernel_rfl) (by kernel_rfl) (by kernel_rfl) (fun _ _ _ h => h) (Or.inl ⟨by rfl, ?_⟩) hHeld ?_
      case refine_2 => (intro w hSw; (try dsimp only at hSw); (try (obtain ⟨s0, s1, s2, s3⟩ := hSw)); simp only [List.getElem_cons_zero, List.getElem_cons_succ]; go_simp <;> with_reducible rfl)
      simp only [List.getElem_cons_zero, List.getElem_cons_succ, Act.put, List.setIfInBounds_toArray, List.set_cons_zero, List.set_cons_succ]
      refine held_take 7 (v := ?_) (by simp) (by kernel_rfl) (by kernel_rfl) (by kernel_rfl) (fun _ _ _ h => h) (Or.inl ⟨by rfl, ?_⟩) hHeld ?_
      case refine_2 => (intro w hSw; (try dsimp only at hSw); (try (obtain ⟨s0, s1, s2, s3⟩ := hSw)); simp only [List.getElem_cons_zero, List.getElem_cons_succ]; go_simp <;> with_reducible rfl)
      simp only [List.getElem_cons_zero, List.getElem_cons_succ, Act.put, List.setIfInBounds_toArray, List.set_cons_zero, List.set_cons_succ]
      refine held_take 8 (v := ?_) (by simp) (by kernel_rfl) (by kernel_rfl) (by kernel_rfl) (fun _ _ _ h => h) (Or.inl ⟨by rfl, ?_⟩) hHeld ?_
      case refine_2 => (intro w hSw; (try dsimp only at hSw); (try (obtain ⟨s0, s1, s2, s3⟩ := hSw)); simp only [List.getElem_cons_zero, List.getElem_cons_succ]; go_simp <;> with_reducible rfl)
      simp only [List.getElem_cons_zero, List.getElem_cons_succ, Act.put, List.setIfInBounds_toArray, List.set_cons_zero, List.set_cons_succ]
      refine held_take 9 (v := ?_) (by simp) (by kernel_rfl) (by kernel_rfl) (by kernel_rfl) (fun _ _ _ h => h) (Or.inl ⟨by rfl, ?_⟩) hHeld ?_
      case refine_2 => (intro w hSw; (try dsimp only at hSw); (try (obtain ⟨s0, s1, s2, s3⟩ := hSw)); simp only [List.getElem_cons_zero, List.getElem_cons_succ]; go_simp <;> with_reducible rfl)
      simp only [List.getElem_cons_zero, List.getElem_cons_succ, Act.put, List.setIfInBounds_toArray, List.set_cons_zero, List.set_cons_succ]
      refine held_sole 10 (by simp) (by kernel_rfl) (fun K hK => ?_)
      simp only [List.getElem_cons_zero, List.getElem_cons_succ]
      rw [if_pos (by rfl)]
      go_simp
      refine (same_any A' B' q.z q.z c' d' _ wr.drew HR.out.1 HR.out.2 hzl hzl).mono ?_
      rintro e w5 ⟨rfl, hb5⟩
      have hbm : Below wr.heap.size wr w5 := ⟨hb5.os, hb5.tape, hb5.output, hb5.size, hb5.block⟩
      have t0 := (hbm.cell (p := ⟨ad.block, o, none⟩) (by show ad.block < wr.heap.size; omega)).trans a0
      have t1 := (hbm.cell (p := ⟨ad.block, o + 1, none⟩) (by show ad.block < wr.heap.size; omega)).trans a1
      have t2 := (hbm.cell (p := ⟨bd.block, o', none⟩) (by show bd.block < wr.heap.size; omega)).trans b0
      have t3 := (hbm.cell (p := ⟨bd.block, o' + 1, none⟩) (by show bd.block < wr.heap.size; omega)).trans b1
      have HB5 := Lib.hid (hb.trans (hbm.mono hb.size))
      rw [decide_eq_true (rfl : q.z = q.z)]
      clear hb5 hbm HR
      go_wp2_with fail
      refine hK.out _ _ ⟨t0, t1, t2, t3⟩ (fun hHeld => ?_)
      clear hK K
      try simp only [Act.put, List.setIfInBounds_toArray, List.set_cons_zero, List.set_cons_succ]
      refine held_take 11 (v := ?_) (by simp) (by kernel_rfl) (by kernel_rfl) (by kernel_rfl) (fun _ _ _ h => h) (Or.inl ⟨by rfl, ?_⟩) hHeld ?_
      case refine_2 => (intro w hSw; (try dsimp only at hSw); (try (obtain ⟨s0, s1, s2, s3⟩ := hSw)); simp only [List.getElem_cons_zero, List.getElem_cons_succ]; go_simp <;> with_reducible rfl)
      simp only [List.getElem_cons_zero, List.getElem_cons_succ, Act.put, List.setIfInBounds_toArray, List.set_cons_zero, List.set_cons_succ]
      refine wpAnyH_done (by kernel_rfl) ?_ _
      clear a0 a1 b0 b1 hb
      go_wp2_with fail
      go_quiet (fail)
      go_wp2
      go_roundw
      case rel => exact ⟨k + 1, by omega, by go_num, below_drewN HB5.out _⟩
      case measure => simp [intOf]; omega
    · clear HA HB HZ
      go_wp2
      go_ret
      exact ⟨rfl, hb⟩
theorem five_cells {w : World} {g : Nat} {t : TypeId} {a b c d e : Value} (h : Blk w g t #[a, b, c, d, e]) : w.cell? ⟨g, 0, none⟩ = some a ∧ w.cell? ⟨g, 1, none⟩ = some b ∧ w.cell? ⟨g, 2, none⟩ = some c ∧ w.cell? ⟨g, 3, none⟩ = some d ∧ w.cell? ⟨g, 4, none⟩ = some e :=
  ⟨h.cell 0, h.cell 1, h.cell 2, h.cell 3, h.cell 4⟩
set_option maxHeartbeats 1000000 in
set_option maxRecDepth 100000 in
theorem instSame_any (x : InstD) (A1 A2 A3 A4 B1 B2 B3 B4 : Option Addr) (c1 c2 c3 c4 d1 d2 d3 d4 K : Nat) (w : World) (ha : InstRd w K x A1 c1 A2 c2 A3 c3 A4 c4) (hb : InstRd w K x B1 d1 B2 d2 B3 d3 B4 d4) (hKw : K ≤ w.heap.size) :
    Calls Try.prog 73 #[instV x A1 c1 A2 c2 A3 c3 A4 c4, instV x B1 d1 B2 d2 B3 d3 B4 d4] w fun e w' => e = .returned (.bool true) ∧ Below w.heap.size w w' := by
  unfold instV
  have hl1 : x.act.length ≤ 4611686018427387904 := by have := ha.r1; omega
  have hl2 : x.nums.length ≤ 4611686018427387904 := by have := ha.r2; omega
  have hl3 : x.past.length ≤ 4611686018427387904 := by have := ha.r3; omega
  have hl4 : x.tms.length ≤ 4611686018427387904 := by have := ha.r4; omega
  have hlz : Hid (∀ p ∈ x.past, p.z.length ≤ 4611686018427387904) := Lib.hid fun p hp => by have := ha.rz p hp; omega
  have hs0 : (w.alloc (.cells #[.slice A1 x.act.length c1, .slice A2 x.nums.length c2, .slice A3 x.past.length c3, .slice A4 x.tms.length c4, .int .i64 x.now] 87)).heap.size = w.heap.size + 1 := by simp
  have hb0 := (Below.refl w.heap.size w).alloc (Nat.le_refl _) (.cells #[.slice A1 x.act.length c1, .slice A2 x.nums.length c2, .slice A3 x.past.length c3, .slice A4 x.tms.length c4, .int .i64 x.now] 87)
  have hb1 := hb0.alloc (by omega) (.cells #[.slice B1 x.act.length d1, .slice B2 x.nums.length d2, .slice B3 x.past.length d3, .slice B4 x.tms.length d4, .int .i64 x.now] 87)
  have HKA := Lib.hid ((Blk.new w 87 #[.slice A1 x.act.length c1, .slice A2 x.nums.length c2, .slice A3 x.past.length c3, .slice A4 x.tms.length c4, .int .i64 x.now]).alloc (.cells #[.slice B1 x.act.length d1, .slice B2 x.nums.length d2, .slice B3 x.past.length d3, .slice B4 x.tms.length d4, .int .i64 x.now] 87))
  have hkb := Blk.new (w.alloc (.cells #[.slice A1 x.act.length c1, .slice A2 x.nums.length c2, .slice A3 x.past.length c3, .slice A4 x.tms.length c4, .int .i64 x.now] 87)) 87 #[.slice B1 x.act.length d1, .slice B2 x.nums.length d2, .slice B3 x.past.length d3, .slice B4 x.tms.length d4, .int .i64 x.now]
  rw [hs0] at hkb
  have HKB := Lib.hid hkb
  have hs1 : w.heap.size + 2 ≤ ((w.alloc (.cells #[.slice A1 x.act.length c1, .slice A2 x.nums.length c2, .slice A3 x.past.length c3, .slice A4 x.tms.length c4, .int .i64 x.now] 87)).alloc (.cells #[.slice B1 x.act.length d1, .slice B2 x.nums.length d2, .slice B3 x.past.length d3, .slice B4 x.tms.length d4, .int .i64 x.now] 87)).heap.size := by simp
  have HB1 := Lib.hid hb1
  have HA := Lib.hid ha
  have HB := Lib.hid hb
  clear hb0 hb1 hkb hs0 ha hb
  go_enter Try.func73, Try.ntmps73
  go_upto_region 1 with fail
  generalize (w.alloc (.cells #[.slice A1 x.act.length c1, .slice A2 x.nums.length c2, .slice A3 x.past.length c3, .slice A4 x.tms.length c4, .int .i64 x.now] 87)).alloc (.cells #[.slice B1 x.act.length d1, .slice B2 x.nums.length d2, .slice B3 x.past.length d3, .slice B4 x.tms.length d4, .int .i64 x.now] 87) = w1 at HKA HKB hs1 HB1 ⊢
  have HALL : Hid (∀ W, Below w1.heap.size w1 W → Blk W w.heap.size 87 #[.slice A1 x.act.length c1, .slice A2 x.nums.length c2, .slice A3 x.past.length c3, .slice A4 x.tms.length c4, .int .i64 x.now] ∧ Blk W (w.heap.size + 1) 87 #[.slice B1 x.act.length d1, .slice B2 x.nums.length d2, .slice B3 x.past.length d3, .slice B4 x.tms.length d4, .int .i64 x.now] ∧ InstRd W K x A1 c1 A2 c2 A3 c3 A4 c4 ∧ InstRd W K x B1 d1 B2 d2 B3 d3 B4 d4 ∧ Below w.heap.size w W) := Lib.hid fun W hb => by
    have h := HB1.out.trans (hb.mono (by omega))
    exact ⟨HKA.out.below hb (by omega), HKB.out.below hb (by omega), HA.out.below h hKw, HB.out.below h hKw, h⟩
  clear HKA HKB HA HB HB1
  obtain ⟨ka, kb, ra, rb, _⟩ := HALL.out w1 (Below.refl _ _)
  obtain ⟨a0, a1, a2, a3, a4⟩ := five_cells ka
  obtain ⟨b0, b1, b2, b3, b4⟩ := five_cells kb
  have hsz1 : w1.heap.size ≤ w1.heap.size := Nat.le_refl _
  have hcall := Lib.hid (selfSame_any A1 B1 x.act c1 d1 K w1 ra.act rb.act hl1)
  clear ka kb ra rb
  go_wp2_with fail
  refine hcall.out.mono ?_
  clear hcall a0 a1 a2 a3 a4 b0 b1 b2 b3 b4
  rintro e w2 ⟨rfl, hb2⟩
  have HB2 := Lib.hid (hb2)
  clear hb2
  obtain ⟨ka, kb, ra, rb, _⟩ := HALL.out w2 HB2.out
  obtain ⟨a0, a1, a2, a3, a4⟩ := five_cells ka
  obtain ⟨b0, b1, b2, b3, b4⟩ := five_cells kb
  have hsz2 : w1.heap.size ≤ w2.heap.size := HB2.out.size
  have hcall := Lib.hid (selfSame_any A2 B2 x.nums c2 d2 K w2 ra.nums rb.nums hl2)
  clear ka kb ra rb
  go_wp2_with fail
  refine hcall.out.mono ?_
  clear hcall a0 a1 a2 a3 a4 b0 b1 b2 b3 b4
  rintro e w3 ⟨rfl, hb3⟩
  have HB3 := Lib.hid (HB2.out.trans (hb3.mono hsz2))
  clear hb3 HB2
  obtain ⟨ka, kb, ra, rb, _⟩ := HALL.out w3 HB3.out
  obtain ⟨a0, a1, a2, a3, a4⟩ := five_cells ka
  obtain ⟨b0, b1, b2, b3, b4⟩ := five_cells kb
  have hsz3 : w1.heap.size ≤ w3.heap.size := HB3.out.size
  have hcall := Lib.hid (pastSame_any x.past A3 B3 x.past.length c3 x.past.length d3 K rfl rfl w3 ra.past rb.past (by omega) hl3 hlz.out)
  clear ka kb ra rb
  go_wp2_with fail
  refine hcall.out.mono ?_
  clear hcall a0 a1 a2 a3 a4 b0 b1 b2 b3 b4
  rintro e w4 ⟨rfl, hb4⟩
  have HB4 := Lib.hid (HB3.out.trans (hb4.mono hsz3))
  clear hb4 HB3
  obtain ⟨ka, kb, ra, rb, _⟩ := HALL.out w4 HB4.out
  obtain ⟨a0, a1, a2, a3, a4⟩ := five_cells ka
  obtain ⟨b0, b1, b2, b3, b4⟩ := five_cells kb
  have hsz4 : w1.heap.size ≤ w4.heap.size := HB4.out.size
  have hcall := Lib.hid (timSame_any x.tms A4 B4 x.tms.length c4 x.tms.length d4 K rfl rfl w4 ra.tms rb.tms (by omega) hl4)
  clear ka kb ra rb
  go_wp2_with fail
  refine hcall.out.mono ?_
  clear hcall a0 a1 a2 a3 a4 b0 b1 b2 b3 b4
  rintro e w5 ⟨rfl, hb5⟩
  have HB5 := Lib.hid (HB4.out.trans (hb5.mono hsz4))
  clear hb5 HB4
  obtain ⟨ka, kb, ra, rb, hw⟩ := HALL.out w5 HB5.out
  obtain ⟨a0, a1, a2, a3, a4⟩ := five_cells ka
  obtain ⟨b0, b1, b2, b3, b4⟩ := five_cells kb
  have HW := Lib.hid hw
  clear ka kb ra rb hw HB5
  go_wp2
  go_ret
  exact ⟨rfl, HW.out⟩
end Go.Proofs.Ytaadbklimfngiaa
