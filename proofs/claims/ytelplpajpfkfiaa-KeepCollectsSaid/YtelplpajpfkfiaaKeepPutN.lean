/- An inbox takes a piece: the pieces behind the first ((*keep.Inbox).Put). Condition: as keepPut_any says. -/
import Derived.Test.YtelplpajpfkfiaaKeepPut
set_option linter.unusedVariables false
namespace Go.Proofs.Ytelplpajpfkfiaa
open Go.RowKit Oct

set_option maxHeartbeats 4000000 in
set_option maxRecDepth 100000 in
theorem put_fit (g : Nat) (s : Inb) (hs : s.ok) (v : Value) (i t n m : Int) (hi64 : -9223372036854775808 ≤ i ∧ i ≤ 9223372036854775807) (ht64 : -9223372036854775808 ≤ t ∧ t ≤ 9223372036854775807) (hn64 : -9223372036854775808 ≤ n ∧ n ≤ 9223372036854775807) (hm64 : -9223372036854775808 ≤ m ∧ m ≤ 9223372036854775807)
    (A : Option Addr) (l : List UInt8) (k c : Nat) (hk : k = l.length) (w : World) (hI : InbAt w g s v) (hr : Rd w w.heap.size A (cells l)) (hl : l.length ≤ 140737488351232) (hAg : ∀ ad, A = some ad → 0 < l.length → ad.block ≠ g) (hn0 : n ≠ 0) (hok : pcB i t n m l.length = true) (hf : fitB s i t n m = true) :
    Calls Try.prog 60 #[.pointer (some ⟨g, 0, none⟩), pcV i t n m A k c] w (PutPost w g v s i t n m l) := by
  subst hk
  obtain ⟨A0, c0, rfl, hv1, hv2, -⟩ := bs_shape hI.2
  have hright := Lib.hid (right_any i t n m A l.length c hi64 ht64 hn64 hm64 (((w.alloc (.cells #[.int .i64 i, .int .i64 t, .int .i64 n, .int .i64 m, .slice A l.length c] 71)).alloc (.cells #[.int .i64 0, .int .i64 0, .slice none 0 0, .slice none 0 0] 59)).alloc (.cells #[.int .i64 i, .int .i64 t, .int .i64 m, .int .i64 n] 111)))
  unfold pcV at hright ⊢
  have hgl : g < w.heap.size := hI.1.lt
  have hs1 : (w.alloc (.cells #[.int .i64 i, .int .i64 t, .int .i64 n, .int .i64 m, .slice A l.length c] 71)).heap.size = w.heap.size + 1 := by simp
  have hs2 : ((w.alloc (.cells #[.int .i64 i, .int .i64 t, .int .i64 n, .int .i64 m, .slice A l.length c] 71)).alloc (.cells #[.int .i64 0, .int .i64 0, .slice none 0 0, .slice none 0 0] 59)).heap.size = w.heap.size + 1 + 1 := by simp
  have hs3 : (((w.alloc (.cells #[.int .i64 i, .int .i64 t, .int .i64 n, .int .i64 m, .slice A l.length c] 71)).alloc (.cells #[.int .i64 0, .int .i64 0, .slice none 0 0, .slice none 0 0] 59)).alloc (.cells #[.int .i64 i, .int .i64 t, .int .i64 m, .int .i64 n] 111)).heap.size = w.heap.size + 3 := by simp
  have KP := ((Blk.new w 71 #[.int .i64 i, .int .i64 t, .int .i64 n, .int .i64 m, .slice A l.length c]).alloc (.cells #[.int .i64 0, .int .i64 0, .slice none 0 0, .slice none 0 0] 59)).alloc (.cells #[.int .i64 i, .int .i64 t, .int .i64 m, .int .i64 n] 111)
  have KZ := (Blk.new (w.alloc (.cells #[.int .i64 i, .int .i64 t, .int .i64 n, .int .i64 m, .slice A l.length c] 71)) 59 #[.int .i64 0, .int .i64 0, .slice none 0 0, .slice none 0 0]).alloc (.cells #[.int .i64 i, .int .i64 t, .int .i64 m, .int .i64 n] 111)
  rw [hs1] at KZ
  have KQ := Blk.new ((w.alloc (.cells #[.int .i64 i, .int .i64 t, .int .i64 n, .int .i64 m, .slice A l.length c] 71)).alloc (.cells #[.int .i64 0, .int .i64 0, .slice none 0 0, .slice none 0 0] 59)) 111 #[.int .i64 i, .int .i64 t, .int .i64 m, .int .i64 n]
  rw [hs2] at KQ
  have hb0 := Lib.hid ((((Below.refl w.heap.size w).alloc (Nat.le_refl _) (.cells #[.int .i64 i, .int .i64 t, .int .i64 n, .int .i64 m, .slice A l.length c] 71)).alloc (by rw [hs1]; omega) (.cells #[.int .i64 0, .int .i64 0, .slice none 0 0, .slice none 0 0] 59)).alloc (by rw [hs2]; omega) (.cells #[.int .i64 i, .int .i64 t, .int .i64 m, .int .i64 n] 111))
  have HZ := Lib.hid hs3
  have KP := Lib.hid KP
  have KZ := Lib.hid KZ
  have KQ := Lib.hid KQ
  have HI := Lib.hid hI
  clear hs1 hs2 hs3 hI hi64 ht64
  go_enter Try.func60, Try.ntmps60
  go_wp2_with fail
  refine hright.out.mono ?_
  clear hright
  rintro e w1 ⟨rfl, hb1⟩
  generalize hW0 : ((w.alloc (.cells #[.int .i64 i, .int .i64 t, .int .i64 n, .int .i64 m, .slice A l.length c] 71)).alloc (.cells #[.int .i64 0, .int .i64 0, .slice none 0 0, .slice none 0 0] 59)).alloc (.cells #[.int .i64 i, .int .i64 t, .int .i64 m, .int .i64 n] 111) = w0 at hb0 HZ KP KZ KQ hb1 ⊢
  clear hW0
  have hs1 : w.heap.size + 3 ≤ w1.heap.size := by have := hb1.size; rw [HZ.out] at this; exact this
  replace KP := Lib.hid (KP.out.below hb1 (by rw [HZ.out]; omega))
  replace KZ := Lib.hid (KZ.out.below hb1 (by rw [HZ.out]; omega))
  replace KQ := Lib.hid (KQ.out.below hb1 (by rw [HZ.out]; omega))
  have hb01 := Lib.hid (hb0.out.trans (hb1.mono (by rw [HZ.out]; omega)))
  clear hb1 hb0 HZ
  rw [hok]
  have hn1 : (n == 0) = false := by simpa using hn0
  have HOK := Lib.hid hok
  have HN0 := Lib.hid hn0
  have hnb1 : 0 ≤ n := by have h2 := pcB_spec.1 hok; omega
  have hnb2 : n ≤ 4096 := by have h2 := pcB_spec.1 hok; omega
  clear hn64
  obtain ⟨d0, d1, d2, d3, _, _, _, _⟩ := blk4_cells KQ.out
  obtain ⟨p0, p1, p2, p3, p4, _, _, _, _, _⟩ := blk5_at KP.out
  have KX0 := Blk.below HI.out.1 hb01.out hgl
  have HV0 := Own.below HI.out.2 hb01.out (Nat.le_refl _)
  clear hok hn0
  have hokb : okB s i t n m l = true := by unfold okB; rw [HOK.out, hf]; simp
  unfold fitB at hf
  simp only [Bool.and_eq_true, decide_eq_true_eq] at hf
  obtain ⟨⟨⟨k1, k2⟩, k3⟩, k4⟩ := hf
  have KX := Lib.hid (show Blk w1 g 113 #[.int .i64 i, .int .i64 t, .int .i64 m, .int .i64 n, .slice A0 s.b.length c0] from by rw [k1, k2, k3, k4]; exact KX0)
  clear k1 k2 k3 k4 KX0
  obtain ⟨r0, r1, r2, r3, r4, u0, u1, u2, u3, u4⟩ := blk5_at KX.out
  have hpl : (putB s n l).length ≤ 1640000 ∧ 0 < (putB s n l).length := by have h1 := putB_len hs hokb; have h2 := pcB_spec.1 (okB_spec hokb).1; omega
  have HOKB := Lib.hid hokb
  have HPB : Hid (putB s n l = s.b ++ l) := Lib.hid (by unfold putB; rw [if_neg HN0.out])
  have hbl : s.b.length + l.length ≤ 1640000 := by have h3 := hpl.1; rw [HPB.out, List.length_append] at h3; exact h3
  have HV := Lib.hid HV0
  have HQ : Hid (∀ q, Value.ownBlock (.slice A0 s.b.length c0) = some q → g < q ∧ q < w.heap.size) := Lib.hid (fun q hq => by have := Own.lt HI.out.2 q hq; omega)
  clear hokb HV0
  go_wp2_with fail
  go_quiet (fail)
  replace KX := Lib.hid (show Blk (w1.drewN nq) g 113 _ from KX.out)
  replace KP := Lib.hid (show Blk (w1.drewN nq) w.heap.size 71 _ from KP.out)
  replace KZ := Lib.hid (show Blk (w1.drewN nq) (w.heap.size + 1) 59 _ from KZ.out)
  replace HV := Lib.hid (show Bs (w1.drewN nq) (g + 1) (.slice A0 s.b.length c0) s.b from HV.out)
  have HBUT := Lib.hid (((But.refl (ptrV g) (.slice A0 s.b.length c0) w).then_ hb01.out).then_ (below_drewN (Below.refl _ w1) nq))
  have HRL := Lib.hid (Rd.drewN (hr.below hb01.out) nq)
  have HNX : Hid (Next (.slice A0 s.b.length c0) (.slice A0 s.b.length c0) w.heap.size) := Lib.hid (fun q hq => .inl hq)
  have hs2 : w.heap.size + 3 ≤ (w1.drewN nq).heap.size := hs1
  generalize hW2 : w1.drewN nq = w2 at KX KP KZ HV HBUT HRL hs2 ⊢
  clear hW2 r0 r1 r2 r3 r4 u0 u1 u2 u3 u4 d0 d1 d2 d3 p0 p1 p2 p3 p4 hb01 HI KQ hs1
  obtain ⟨x0, x1, x2, x3, x4, y0, y1, y2, y3, y4⟩ := blk5_at KX.out
  obtain ⟨p0, p1, p2, p3, p4, _, _, _, _, _⟩ := blk5_at KP.out
  go_wp2_with fail
  refine wp_region_heldT 10 (by kernel_rfl) (S := fun W => W.cell? ⟨g, 4, none⟩ = some (.slice A0 s.b.length c0) ∧ W.cell? ⟨w.heap.size, 4, none⟩ = some (.slice A l.length c) ∧ True ∧ True) ⟨x4, p4, trivial, trivial⟩ (fun hHeld => ?_)
  refine heldT_take 0 (v := ?_) (by simp) (by kernel_rfl) (by kernel_rfl) (by kernel_rfl) (by kernel_rfl) (fun _ _ _ h => h) (Or.inl ⟨by rfl, ?_⟩) hHeld ?_
  case refine_2 => (intro w hSw; (try dsimp only at hSw); (try (obtain ⟨s0, s1, s2, s3⟩ := hSw)); simp only [List.getElem_cons_zero]; go_simp <;> with_reducible rfl)
  simp only [List.getElem_cons_zero, Act.put, List.setIfInBounds_toArray, List.set_cons_zero, List.set_cons_succ]
  refine heldT_take 1 (v := ?_) (by simp) (by kernel_rfl) (by kernel_rfl) (by kernel_rfl) (by kernel_rfl) (fun _ _ _ h => h) (Or.inl ⟨by rfl, ?_⟩) hHeld ?_
  case refine_2 => (intro w hSw; (try dsimp only at hSw); (try (obtain ⟨s0, s1, s2, s3⟩ := hSw)); simp only [List.getElem_cons_zero, List.getElem_cons_succ]; go_simp <;> with_reducible rfl)
  simp only [List.getElem_cons_zero, List.getElem_cons_succ, Act.put, List.setIfInBounds_toArray, List.set_cons_zero, List.set_cons_succ]
  refine heldT_take 2 (v := ?_) (by simp) (by kernel_rfl) (by kernel_rfl) (by kernel_rfl) (by kernel_rfl) (fun _ _ _ h => h) (Or.inl ⟨by rfl, ?_⟩) hHeld ?_
  case refine_2 => (intro w hSw; (try dsimp only at hSw); (try (obtain ⟨s0, s1, s2, s3⟩ := hSw)); simp only [List.getElem_cons_zero, List.getElem_cons_succ]; go_simp <;> with_reducible rfl)
  simp only [List.getElem_cons_zero, List.getElem_cons_succ, Act.put, List.setIfInBounds_toArray, List.set_cons_zero, List.set_cons_succ]
  refine heldT_take 3 (v := ?_) (by simp) (by kernel_rfl) (by kernel_rfl) (by kernel_rfl) (by kernel_rfl) (fun _ _ _ h => h) (Or.inl ⟨by rfl, ?_⟩) hHeld ?_
  case refine_2 => (intro w hSw; (try dsimp only at hSw); (try (obtain ⟨s0, s1, s2, s3⟩ := hSw)); simp only [List.getElem_cons_zero, List.getElem_cons_succ]; go_simp <;> with_reducible rfl)
  simp only [List.getElem_cons_zero, List.getElem_cons_succ, Act.put, List.setIfInBounds_toArray, List.set_cons_zero, List.set_cons_succ]
  refine heldT_take 4 (v := ?_) (by simp) (by kernel_rfl) (by kernel_rfl) (by kernel_rfl) (by kernel_rfl) (fun _ _ _ h => h) (Or.inl ⟨by rfl, ?_⟩) hHeld ?_
  case refine_2 => (intro w hSw; (try dsimp only at hSw); (try (obtain ⟨s0, s1, s2, s3⟩ := hSw)); simp only [List.getElem_cons_zero, List.getElem_cons_succ]; go_simp <;> with_reducible rfl)
  simp only [List.getElem_cons_zero, List.getElem_cons_succ, Act.put, List.setIfInBounds_toArray, List.set_cons_zero, List.set_cons_succ]
  refine heldT_take 5 (v := ?_) (by simp) (by kernel_rfl) (by kernel_rfl) (by kernel_rfl) (by kernel_rfl) (fun _ _ _ h => h) (Or.inl ⟨by rfl, ?_⟩) hHeld ?_
  case refine_2 => (intro w hSw; (try dsimp only at hSw); (try (obtain ⟨s0, s1, s2, s3⟩ := hSw)); simp only [List.getElem_cons_zero, List.getElem_cons_succ]; go_simp <;> with_reducible rfl)
  simp only [List.getElem_cons_zero, List.getElem_cons_succ, Act.put, List.setIfInBounds_toArray, List.set_cons_zero, List.set_cons_succ]
  refine heldT_take 6 (v := ?_) (by simp) (by kernel_rfl) (by kernel_rfl) (by kernel_rfl) (by kernel_rfl) (fun _ _ _ h => h) (Or.inl ⟨by rfl, ?_⟩) hHeld ?_
  case refine_2 => (intro w hSw; (try dsimp only at hSw); (try (obtain ⟨s0, s1, s2, s3⟩ := hSw)); simp only [List.getElem_cons_zero, List.getElem_cons_succ]; go_simp <;> with_reducible rfl)
  simp only [List.getElem_cons_zero, List.getElem_cons_succ, Act.put, List.setIfInBounds_toArray, List.set_cons_zero, List.set_cons_succ]
  refine heldT_sole 7 (by simp) (by kernel_rfl) (fun K hK => ?_)
  simp only [List.getElem_cons_zero, List.getElem_cons_succ]
  rw [if_pos (by rfl)]
  refine wp_append_any (.tmp 44) (.tmp 46) 22 rfl (g + 1) 5 (.int .u8 0) 1 Try.underlying22 info_u8 rfl _ _ rfl (show Bs w2.drew (g + 1) (.slice A0 s.b.length c0) s.b from HV.out) w.heap.size A l.length c _ rfl (cells_length _).symm (show Rd w2.drew w.heap.size A (cells l) from HRL.out) (bytes_oneCell _) (by rw [cells_length]; unfold maxLen; omega) (by rw [cells_length]; omega) (by show g + 1 ≤ w2.heap.size; omega) ?_
  intro v3 w3 hown3 hg3 hf3
  rw [← cells_append] at hown3
  have HV3 : Hid (Bs w3 (g + 1) v3 (s.b ++ l)) := Lib.hid hown3
  have hbk : ∀ b, b < w2.heap.size → (∀ q, Value.ownBlock (.slice A0 s.b.length c0) = some q → b ≠ q) → w3.heap[b]? = w2.heap[b]? := fun b hb hne => hg3.block b hb (fun e => hne b e.symm rfl)
  have KX3 : Blk w3 g 113 #[.int .i64 i, .int .i64 t, .int .i64 m, .int .i64 n, (.slice A0 s.b.length c0)] := (hbk g (by omega) (fun q hq => by have := HQ.out q hq; omega)).trans KX.out
  have KP3 : Blk w3 w.heap.size 71 _ := (hbk w.heap.size (by omega) (fun q hq => by have := HQ.out q hq; omega)).trans KP.out
  have KZ3 : Blk w3 (w.heap.size + 1) 59 _ := (hbk (w.heap.size + 1) (by omega) (fun q hq => by have := HQ.out q hq; omega)).trans KZ.out
  have HBUT3 : But (ptrV g) (.slice A0 s.b.length c0) w w3 := HBUT.out.grown (w1 := w2) ⟨hg3.os, hg3.tape, hg3.output, hg3.size, hg3.block⟩ (fun q hq => HNX.out q hq)
  have HN3 : Hid (Next (.slice A0 s.b.length c0) v3 w.heap.size) := Lib.hid (fun q hq => by
    rcases hf3 with hf3 | ⟨g', hf3, hg'⟩
    · exact HNX.out q (hf3.symm.trans hq)
    · rw [hf3] at hq
      injection hq with hq
      subst hq
      have h1 : w2.heap.size ≤ g' := hg'
      exact .inr (by omega))
  have HQ3 : Hid (∀ q, v3.ownBlock = some q → q < w.heap.size ∨ w.heap.size + 3 ≤ q) := Lib.hid (fun q hq => by
    rcases hf3 with hf3 | ⟨g', hf3, hg'⟩
    · exact .inl (HQ.out q (hf3.symm.trans hq)).2
    · rw [hf3] at hq
      injection hq with hq
      subst hq
      have h1 : w2.heap.size ≤ g' := hg'
      exact .inr (by omega))
  have hs3 : w.heap.size + 3 ≤ w3.heap.size := Nat.le_trans hs2 hg3.size
  obtain ⟨A3, c3, rfl, hc3, hm3, -⟩ := bs_shape HV3.out
  obtain ⟨x0, x1, x2, x3, x4, y0, y1, y2, y3, y4⟩ := blk5_at KX3
  obtain ⟨p0, p1, p2, p3, p4, _, _, _, _, _⟩ := blk5_at KP3
  clear hown3 hf3 hg3
  refine hK.out _ _ ⟨x4, p4, trivial, trivial⟩ (fun hHeld => ?_)
  clear hK K
  try simp only [Act.put, List.setIfInBounds_toArray, List.set_cons_zero, List.set_cons_succ]
  refine heldT_sole 8 (by simp) (by kernel_rfl) (fun K hK => ?_)
  simp only [List.getElem_cons_zero, List.getElem_cons_succ]
  go_simp
  refine hK.out _ _ ⟨x4, p4, trivial, trivial⟩ (fun hHeld => ?_)
  clear hK K
  try simp only [Act.put, List.setIfInBounds_toArray, List.set_cons_zero, List.set_cons_succ]
  refine heldT_take 9 (v := ?_) (by simp) (by kernel_rfl) (by kernel_rfl) (by kernel_rfl) (by kernel_rfl) (fun _ _ _ h => h) (Or.inl ⟨by rfl, ?_⟩) hHeld ?_
  case refine_2 => (intro w hSw; (try dsimp only at hSw); (try (obtain ⟨s0, s1, s2, s3⟩ := hSw)); simp only [List.getElem_cons_zero, List.getElem_cons_succ]; go_simp <;> with_reducible rfl)
  simp only [List.getElem_cons_zero, List.getElem_cons_succ, Act.put, List.setIfInBounds_toArray, List.set_cons_zero, List.set_cons_succ]
  refine heldT_last (t := 10) (by simp) (by kernel_rfl) (by kernel_rfl) (fun K hK => ?_)
  simp only [List.getElem_cons_zero, List.getElem_cons_succ]
  go_simp
  refine hK.out _ _ ?_
  clear hK K hHeld
  have hLN : Hid ((s.b ++ l).length ≤ 1640000 ∧ 0 < (s.b ++ l).length) := Lib.hid (by rw [← HPB.out]; exact hpl)
  obtain ⟨bb, hbb⟩ : ∃ bb, bb = s.b ++ l := ⟨_, rfl⟩
  rw [← List.length_append, ← hbb]
  rw [← hbb] at HV3 hc3 HPB hLN HQ3 HN3
  clear hbb
  have KX4 := Lib.hid (show Blk (w3.setCell ⟨g, 4, none⟩ (.slice A3 bb.length c3)) g 113 #[.int .i64 i, .int .i64 t, .int .i64 m, .int .i64 n, .slice A3 bb.length c3] from Blk.set_ KX3 4 _)
  have HV4 := Lib.hid (show Bs (w3.setCell ⟨g, 4, none⟩ (.slice A3 bb.length c3)) (g + 1) (.slice A3 bb.length c3) bb from Own.far HV3.out (grown_setCell w3 g 4 _) (by omega))
  have KP4 := Lib.hid (Blk.far (p := ⟨g, 4, none⟩) KP3 (by show w.heap.size ≠ g; omega) (.slice A3 bb.length c3))
  have KZ4 := Lib.hid (Blk.far (p := ⟨g, 4, none⟩) KZ3 (by show w.heap.size + 1 ≠ g; omega) (.slice A3 bb.length c3))
  have HBUT4 := Lib.hid (HBUT3.set (g := g) rfl 4 (.slice A3 bb.length c3))
  have hs4 : w.heap.size + 3 ≤ (w3.setCell ⟨g, 4, none⟩ (.slice A3 bb.length c3)).heap.size := by simp; omega
  generalize hW4 : w3.setCell ⟨g, 4, none⟩ (.slice A3 bb.length c3) = w4 at KX4 HV4 KP4 KZ4 HBUT4 hs4 ⊢
  clear hW4 KX3 KP3 KZ3 HBUT3 HV3 hs3 hbk HV KX KP KZ HBUT HNX x0 x1 x2 x3 x4 y0 y1 y2 y3 y4 p0 p1 p2 p3 p4 hs2
  obtain ⟨x0, x1, x2, x3, x4, y0, y1, y2, y3, y4⟩ := blk5_at KX4.out
  have KX5 := Lib.hid (show Blk (w4.setCell ⟨g, 3, none⟩ (.int .i64 (n + 1))) g 113 #[.int .i64 i, .int .i64 t, .int .i64 m, .int .i64 (n + 1), .slice A3 bb.length c3] from Blk.set_ KX4.out 3 _)
  have HV5 := Lib.hid (show Bs (w4.setCell ⟨g, 3, none⟩ (.int .i64 (n + 1))) (g + 1) (.slice A3 bb.length c3) bb from Own.far HV4.out (grown_setCell w4 g 3 _) (by omega))
  have KP5 := Lib.hid (Blk.far (p := ⟨g, 3, none⟩) KP4.out (by show w.heap.size ≠ g; omega) (.int .i64 (n + 1)))
  have KZ5 := Lib.hid (Blk.far (p := ⟨g, 3, none⟩) KZ4.out (by show w.heap.size + 1 ≠ g; omega) (.int .i64 (n + 1)))
  have HBUT5 := Lib.hid (HBUT4.out.set (g := g) rfl 3 (.int .i64 (n + 1)))
  have hs5 : w.heap.size + 3 ≤ (w4.setCell ⟨g, 3, none⟩ (.int .i64 (n + 1))).heap.size := by simp; omega
  go_upto_region 10 with fail
  generalize hW5 : w4.setCell ⟨g, 3, none⟩ (.int .i64 (n + 1)) = w5 at KX5 HV5 KP5 KZ5 HBUT5 hs5 ⊢
  clear hW5 KX4 KP4 KZ4 HBUT4 HV4 hs4 x0 x1 x2 x3 x4 y0 y1 y2 y3 y4
  obtain ⟨x0, x1, x2, x3, x4, y0, y1, y2, y3, y4⟩ := blk5_at KX5.out
  go_quiet (fail)
  have KX6 : Blk (w5.drewN nq) g 113 _ := KX5.out
  have KP6 := Lib.hid (show Blk (w5.drewN nq) w.heap.size 71 _ from KP5.out)
  have KZ6 := Lib.hid (show Blk (w5.drewN nq) (w.heap.size + 1) 59 _ from KZ5.out)
  have HV6 := Lib.hid (show Bs (w5.drewN nq) (g + 1) (.slice A3 bb.length c3) bb from HV5.out)
  have HBUT6 := Lib.hid (HBUT5.out.then_ (below_drewN (Below.refl _ w5) nq))
  have hs6 : w.heap.size + 3 ≤ (w5.drewN nq).heap.size := hs5
  generalize hW6 : w5.drewN nq = w6 at KX6 HV6 KP6 KZ6 HBUT6 hs6 ⊢
  clear hW6 KX5 KP5 KZ5 HBUT5 HV5 hs5 x0 x1 x2 x3 x4 y0 y1 y2 y3 y4
  have KX6 := Lib.hid KX6
  by_cases hlt : (n + 1) < m
  · obtain ⟨e0, e1, e2, e3, f0, f1, f2, f3⟩ := blk4_cells KZ6.out
    have KF := Lib.hid ((((Blk.set_ KZ6.out 0 (.int .i64 0)).set_ 1 (.int .i64 0)).set_ 2 (.slice none 0 0)).set_ 3 (.slice none 0 0))
    have hZ4 := Lib.hid (grown_z4 w6 (w.heap.size + 1) (.int .i64 0) (.int .i64 0) (.slice none 0 0) (.slice none 0 0))
    have HE : Hid (endB s i t n m l = false ∧ putE s i t n m l = 0 ∧ putS s i t n m l = ⟨i, t, m, (n + 1), bb⟩) := Lib.hid (by simpa using put_more HOKB.out HPB.out (by omega))
    have HKX := Lib.hid (KX6.out.grown hZ4.out (fun e => by injection e with e; omega))
    have HHV := Lib.hid (Own.kept HV6.out hZ4.out (.inr (fun e => by have := HQ3.out _ e; omega)))
    have HFIN := Lib.hid (HBUT6.out.grown hZ4.out (fun q hq => .inr (by injection hq with hq; omega)))
    clear hZ4 KX6 KZ6 KP6 HV6 HBUT6
    (try clear hl); (try clear hr); (try clear hAg); (try clear hpl); (try clear hpl2); (try clear hbl); (try clear hc3); (try clear hm3); (try clear hs); (try clear hv1); (try clear hv2); (try clear hnb1); (try clear hnb2); (try clear hm64); (try clear hn1)
    go_wp2_with fail
    refine bodyPost_ret (results_snap2 (fn := Try.f60) rfl _ _ (w.heap.size + 1) _ _ _ _ rfl KF.out) rfl ?_
    obtain ⟨h1, h2, h3⟩ := HE.out
    exact PutPost.mk0 (s' := ⟨i, t, m, (n + 1), bb⟩) h1 h2 h3 ⟨HKX.out, HHV.out⟩ HFIN.out HN3.out
  · obtain ⟨x0, x1, x2, x3, x4, y0, y1, y2, y3, y4⟩ := blk5_at KX6.out
    have HE : Hid (endB s i t n m l = sameB bb i t ∧ putE s i t n m l = (if sameB bb i t = true then 0 else 54) ∧ putS s i t n m l = inb0) := Lib.hid (put_end HOKB.out HPB.out (by omega))
    clear HOKB
    go_wp2_with fail
    refine (read_any A3 bb _ c3 rfl w6 (own_rd HV6.out) hc3 (by have := hLN.out; omega) hm3).mono ?_
    rintro e w7 ⟨V, rfl, hV, hb7⟩
    obtain ⟨vx, vy, rfl, hvx, hvy, hvxy⟩ := hV
    obtain ⟨Avx, cvx, rfl, -⟩ := is_shape hvx
    obtain ⟨Avy, cvy, rfl, -⟩ := bs_shape hvy
    have hs7 : w.heap.size + 3 ≤ w7.heap.size := Nat.le_trans hs6 hb7.size
    have KX7 := KX6.out.below hb7 (by omega)
    have KP7 := KP6.out.below hb7 (by omega)
    have KZ7 := KZ6.out.below hb7 (by omega)
    have HBUT7 := HBUT6.out.then_ hb7
    have HVXY := Lib.hid hvxy
    clear hb7 KX6 KP6 KZ6 HBUT6 HV6 hvxy x0 x1 x2 x3 x4 y0 y1 y2 y3 y4
    have hbV : Below w7.heap.size w7 (w7.alloc (.cells #[.int .i64 (oI bb), .int .i64 (oT bb), .slice Avx (oZ bb).length cvx, .slice Avy (oD bb).length cvy] 59)) := (Below.refl _ w7).alloc (Nat.le_refl _) _
    have KV8 := Lib.hid (Blk.new w7 59 #[.int .i64 (oI bb), .int .i64 (oT bb), .slice Avx (oZ bb).length cvx, .slice Avy (oD bb).length cvy])
    have KX8 := KX7.below hbV (by omega)
    have KP8 := KP7.below hbV (by omega)
    have KZ8 := KZ7.below hbV (by omega)
    have HBUT8 := HBUT7.then_ hbV
    have HVX8 := Own.below hvx hbV (Nat.le_refl _)
    have HVY8 := Own.below hvy hbV (Nat.le_refl _)
    obtain ⟨x0, x1, x2, x3, x4, y0, y1, y2, y3, y4⟩ := blk5_at KX8
    have hZ5 := grown_z5 (w7.alloc (.cells #[.int .i64 (oI bb), .int .i64 (oT bb), .slice Avx (oZ bb).length cvx, .slice Avy (oD bb).length cvy] 59)) g (.int .i64 0) (.int .i64 0) (.int .i64 0) (.int .i64 0) (.slice none 0 0)
    have KX9 := Lib.hid (blk_z5 KX8 (.int .i64 0) (.int .i64 0) (.int .i64 0) (.int .i64 0) (.slice none 0 0))
    have KP9 := Lib.hid (KP8.grown hZ5 (fun e => by injection e with e; omega))
    have KZ9 := Lib.hid (KZ8.grown hZ5 (fun e => by injection e with e; omega))
    have KV9 := Lib.hid (KV8.out.grown hZ5 (fun e => by injection e with e; omega))
    have HBUT9 := Lib.hid (HBUT8.bump hZ5)
    have HVX9 := Lib.hid (Own.far HVX8 hZ5 (by omega))
    have HVY9 := Lib.hid (Own.far HVY8 hZ5 (by omega))
    clear hZ5 hbV KX7 KP7 KZ7 HBUT7 KX8 KP8 KZ8 HBUT8 HVX8 HVY8 hvx hvy KV8
    go_upto_region 14 with fail
    generalize hW9 : World.setCell _ ⟨g, 4, none⟩ (.slice none 0 0) = w9 at KX9 KP9 KZ9 KV9 HBUT9 HVX9 HVY9 ⊢
    clear hW9 x0 x1 x2 x3 x4 y0 y1 y2 y3 y4
    obtain ⟨p0, p1, p2, p3, p4, _, _, _, _, _⟩ := blk5_at KP9.out
    obtain ⟨q0, q1, q2, q3, _, _, _, _⟩ := blk4_cells KV9.out
    obtain ⟨e0, e1, e2, e3, f0, f1, f2, f3⟩ := blk4_cells KZ9.out
    by_cases hsm : sameB bb i t = true
    · obtain ⟨s1, s2, s3⟩ := sameB_true hsm
      have HSM := Lib.hid hsm
      have HS23 := Lib.hid (And.intro s2 s3)
      rw [s1]
      rw [s2] at q0
      rw [s3] at q1
      have hz := grown_z4 w9 (w.heap.size + 1) (.int .i64 i) (.int .i64 t) (.slice Avx (oZ bb).length cvx) (.slice Avy (oD bb).length cvy)
      have KF := Lib.hid (blk_z4 KZ9.out (.int .i64 i) (.int .i64 t) (.slice Avx (oZ bb).length cvx) (.slice Avy (oD bb).length cvy))
      have HKX := Lib.hid (KX9.out.grown hz (fun e => by injection e with e; omega))
      have HFIN := Lib.hid (HBUT9.out.grown hz (fun q hq => .inr (by injection hq with hq; omega)))
      have HX10 := Lib.hid (Own.far HVX9.out hz (by omega))
      have HY10 := Lib.hid (Own.far HVY9.out hz (by omega))
      clear hz hsm s1 s2 s3 KX9 KP9 KZ9 KV9 HBUT9 HVX9 HVY9
      (try clear hl); (try clear hr); (try clear hAg); (try clear hpl); (try clear hpl2); (try clear hbl); (try clear hc3); (try clear hm3); (try clear hs); (try clear hv1); (try clear hv2); (try clear hnb1); (try clear hnb2); (try clear hm64); (try clear hn1); (try clear hlt)
      go_wp2_with fail
      refine bodyPost_ret (results_snap2 (fn := Try.f60) rfl _ _ (w.heap.size + 1) _ _ _ _ rfl KF.out) rfl ?_
      obtain ⟨h1, h2, h3⟩ := HE.out
      rw [HSM.out] at h1 h2
      rw [if_pos rfl] at h2
      exact PutPost.mk' (s' := inb0) (v' := .slice none 0 0) h1 h2 h3 (by rw [HPB.out]; exact HS23.out.1) (by rw [HPB.out]; exact HS23.out.2) (by rw [HPB.out]; rfl) (by rw [HPB.out]; rfl) ⟨_, _, rfl, Own.mono HX10.out (by omega), Own.mono HY10.out (by omega), HVXY.out⟩ ⟨HKX.out, Own.nil _ _ _⟩ HFIN.out (fun q hq => by simp [Value.ownBlock] at hq) (fun _ => rfl) (fun h => by cases h)
    · have hsm' : sameB bb i t = false := by simpa using hsm
      have HSM := Lib.hid hsm'
      have hz := grown_z4 w9 (w.heap.size + 1) (.int .i64 0) (.int .i64 0) (.slice none 0 0) (.slice none 0 0)
      have KF := Lib.hid (blk_z4 KZ9.out (.int .i64 0) (.int .i64 0) (.slice none 0 0) (.slice none 0 0))
      have HKX := Lib.hid (KX9.out.grown hz (fun e => by injection e with e; omega))
      have HFIN := Lib.hid (HBUT9.out.grown hz (fun q hq => .inr (by injection hq with hq; omega)))
      have hcase : oE bb = 4 ∨ oE bb = 0 ∧ oI bb ≠ i ∨ oE bb = 0 ∧ oI bb = i ∧ oT bb ≠ t := by
        unfold sameB at hsm'
        by_cases hr : readB bb = true
        · simp only [hr, Bool.true_and, Bool.and_eq_false_iff, decide_eq_false_iff_not] at hsm'
          by_cases h4 : rI bb = i
          · exact .inr (.inr ⟨by simp [oE, hr], by simp [oI, hr, h4], by simp [oT, hr]; rcases hsm' with h5 | h5; exact absurd h4 h5; exact h5⟩)
          · exact .inr (.inl ⟨by simp [oE, hr], by simpa [oI, hr] using h4⟩)
        · exact .inl (by simp [oE, hr])
      clear hz hsm hsm' KX9 KP9 KZ9 KV9 HBUT9 HVX9 HVY9
      (try clear hl); (try clear hr); (try clear hAg); (try clear hpl); (try clear hpl2); (try clear hbl); (try clear hc3); (try clear hm3); (try clear hs); (try clear hv1); (try clear hv2); (try clear hnb1); (try clear hnb2); (try clear hm64); (try clear hn1); (try clear hlt)
      rcases hcase with h4 | ⟨h4, h5⟩ | ⟨h4, h5, h6⟩
      · rw [h4]
        clear h4
        go_wp2_with fail
        refine bodyPost_ret (results_snap2 (fn := Try.f60) rfl _ _ (w.heap.size + 1) _ _ _ _ rfl KF.out) rfl ?_
        obtain ⟨h1, h2, h3⟩ := HE.out
        rw [HSM.out] at h1 h2
        exact PutPost.mk0 (s' := inb0) (v' := .slice none 0 0) h1 h2 h3 ⟨HKX.out, Own.nil _ _ _⟩ HFIN.out (fun q hq => by simp [Value.ownBlock] at hq)
      · rw [h4]
        have h7 : (oI bb != i) = true := by simpa using h5
        clear h4 h5
        go_wp2_with fail
        refine bodyPost_ret (results_snap2 (fn := Try.f60) rfl _ _ (w.heap.size + 1) _ _ _ _ rfl KF.out) rfl ?_
        obtain ⟨h1, h2, h3⟩ := HE.out
        rw [HSM.out] at h1 h2
        exact PutPost.mk0 (s' := inb0) (v' := .slice none 0 0) h1 h2 h3 ⟨HKX.out, Own.nil _ _ _⟩ HFIN.out (fun q hq => by simp [Value.ownBlock] at hq)
      · rw [h4]
        rw [h5] at q0
        have h7 : (oT bb != t) = true := by simpa using h6
        clear h4 h5 h6
        go_wp2_with fail
        refine bodyPost_ret (results_snap2 (fn := Try.f60) rfl _ _ (w.heap.size + 1) _ _ _ _ rfl KF.out) rfl ?_
        obtain ⟨h1, h2, h3⟩ := HE.out
        rw [HSM.out] at h1 h2
        exact PutPost.mk0 (s' := inb0) (v' := .slice none 0 0) h1 h2 h3 ⟨HKX.out, Own.nil _ _ _⟩ HFIN.out (fun q hq => by simp [Value.ownBlock] at hq)

set_option maxHeartbeats 4000000 in
set_option maxRecDepth 100000 in
theorem put_not (g : Nat) (s : Inb) (hs : s.ok) (v : Value) (i t n m : Int) (hi64 : -9223372036854775808 ≤ i ∧ i ≤ 9223372036854775807) (ht64 : -9223372036854775808 ≤ t ∧ t ≤ 9223372036854775807) (hn64 : -9223372036854775808 ≤ n ∧ n ≤ 9223372036854775807) (hm64 : -9223372036854775808 ≤ m ∧ m ≤ 9223372036854775807)
    (A : Option Addr) (l : List UInt8) (k c : Nat) (hk : k = l.length) (w : World) (hI : InbAt w g s v) (hr : Rd w w.heap.size A (cells l)) (hl : l.length ≤ 140737488351232) (hAg : ∀ ad, A = some ad → 0 < l.length → ad.block ≠ g) (hn0 : n ≠ 0) (hok : pcB i t n m l.length = true) (hf' : fitB s i t n m = false) :
    Calls Try.prog 60 #[.pointer (some ⟨g, 0, none⟩), pcV i t n m A k c] w (PutPost w g v s i t n m l) := by
  subst hk
  obtain ⟨A0, c0, rfl, hv1, hv2, -⟩ := bs_shape hI.2
  have hright := Lib.hid (right_any i t n m A l.length c hi64 ht64 hn64 hm64 (((w.alloc (.cells #[.int .i64 i, .int .i64 t, .int .i64 n, .int .i64 m, .slice A l.length c] 71)).alloc (.cells #[.int .i64 0, .int .i64 0, .slice none 0 0, .slice none 0 0] 59)).alloc (.cells #[.int .i64 i, .int .i64 t, .int .i64 m, .int .i64 n] 111)))
  unfold pcV at hright ⊢
  have hgl : g < w.heap.size := hI.1.lt
  have hs1 : (w.alloc (.cells #[.int .i64 i, .int .i64 t, .int .i64 n, .int .i64 m, .slice A l.length c] 71)).heap.size = w.heap.size + 1 := by simp
  have hs2 : ((w.alloc (.cells #[.int .i64 i, .int .i64 t, .int .i64 n, .int .i64 m, .slice A l.length c] 71)).alloc (.cells #[.int .i64 0, .int .i64 0, .slice none 0 0, .slice none 0 0] 59)).heap.size = w.heap.size + 1 + 1 := by simp
  have hs3 : (((w.alloc (.cells #[.int .i64 i, .int .i64 t, .int .i64 n, .int .i64 m, .slice A l.length c] 71)).alloc (.cells #[.int .i64 0, .int .i64 0, .slice none 0 0, .slice none 0 0] 59)).alloc (.cells #[.int .i64 i, .int .i64 t, .int .i64 m, .int .i64 n] 111)).heap.size = w.heap.size + 3 := by simp
  have KP := ((Blk.new w 71 #[.int .i64 i, .int .i64 t, .int .i64 n, .int .i64 m, .slice A l.length c]).alloc (.cells #[.int .i64 0, .int .i64 0, .slice none 0 0, .slice none 0 0] 59)).alloc (.cells #[.int .i64 i, .int .i64 t, .int .i64 m, .int .i64 n] 111)
  have KZ := (Blk.new (w.alloc (.cells #[.int .i64 i, .int .i64 t, .int .i64 n, .int .i64 m, .slice A l.length c] 71)) 59 #[.int .i64 0, .int .i64 0, .slice none 0 0, .slice none 0 0]).alloc (.cells #[.int .i64 i, .int .i64 t, .int .i64 m, .int .i64 n] 111)
  rw [hs1] at KZ
  have KQ := Blk.new ((w.alloc (.cells #[.int .i64 i, .int .i64 t, .int .i64 n, .int .i64 m, .slice A l.length c] 71)).alloc (.cells #[.int .i64 0, .int .i64 0, .slice none 0 0, .slice none 0 0] 59)) 111 #[.int .i64 i, .int .i64 t, .int .i64 m, .int .i64 n]
  rw [hs2] at KQ
  have hb0 := Lib.hid ((((Below.refl w.heap.size w).alloc (Nat.le_refl _) (.cells #[.int .i64 i, .int .i64 t, .int .i64 n, .int .i64 m, .slice A l.length c] 71)).alloc (by rw [hs1]; omega) (.cells #[.int .i64 0, .int .i64 0, .slice none 0 0, .slice none 0 0] 59)).alloc (by rw [hs2]; omega) (.cells #[.int .i64 i, .int .i64 t, .int .i64 m, .int .i64 n] 111))
  have HZ := Lib.hid hs3
  have KP := Lib.hid KP
  have KZ := Lib.hid KZ
  have KQ := Lib.hid KQ
  have HI := Lib.hid hI
  clear hs1 hs2 hs3 hI hi64 ht64
  go_enter Try.func60, Try.ntmps60
  go_wp2_with fail
  refine hright.out.mono ?_
  clear hright
  rintro e w1 ⟨rfl, hb1⟩
  generalize hW0 : ((w.alloc (.cells #[.int .i64 i, .int .i64 t, .int .i64 n, .int .i64 m, .slice A l.length c] 71)).alloc (.cells #[.int .i64 0, .int .i64 0, .slice none 0 0, .slice none 0 0] 59)).alloc (.cells #[.int .i64 i, .int .i64 t, .int .i64 m, .int .i64 n] 111) = w0 at hb0 HZ KP KZ KQ hb1 ⊢
  clear hW0
  have hs1 : w.heap.size + 3 ≤ w1.heap.size := by have := hb1.size; rw [HZ.out] at this; exact this
  replace KP := Lib.hid (KP.out.below hb1 (by rw [HZ.out]; omega))
  replace KZ := Lib.hid (KZ.out.below hb1 (by rw [HZ.out]; omega))
  replace KQ := Lib.hid (KQ.out.below hb1 (by rw [HZ.out]; omega))
  have hb01 := Lib.hid (hb0.out.trans (hb1.mono (by rw [HZ.out]; omega)))
  clear hb1 hb0 HZ
  rw [hok]
  have hn1 : (n == 0) = false := by simpa using hn0
  have HOK := Lib.hid hok
  have HN0 := Lib.hid hn0
  have hnb1 : 0 ≤ n := by have h2 := pcB_spec.1 hok; omega
  have hnb2 : n ≤ 4096 := by have h2 := pcB_spec.1 hok; omega
  clear hn64
  obtain ⟨d0, d1, d2, d3, _, _, _, _⟩ := blk4_cells KQ.out
  obtain ⟨p0, p1, p2, p3, p4, _, _, _, _, _⟩ := blk5_at KP.out
  have KX0 := Blk.below HI.out.1 hb01.out hgl
  have HV0 := Own.below HI.out.2 hb01.out (Nat.le_refl _)
  clear hok hn0
  obtain ⟨si, st, sm, sn, sb⟩ := s
  obtain ⟨r0, r1, r2, r3, r4, u0, u1, u2, u3, u4⟩ := blk5_at KX0
  have hd : i ≠ si ∨ i = si ∧ (t ≠ st ∨ t = st ∧ (m ≠ sm ∨ m = sm ∧ n ≠ sn)) := by
    unfold fitB at hf'
    by_cases h1 : i = si
    · by_cases h2 : t = st
      · by_cases h3 : m = sm
        · refine .inr ⟨h1, .inr ⟨h2, .inr ⟨h3, fun h4 => ?_⟩⟩⟩
          simp [h1, h2, h3, h4] at hf'
        · exact .inr ⟨h1, .inr ⟨h2, .inl h3⟩⟩
      · exact .inr ⟨h1, .inl h2⟩
    · exact .inl h1
  have HF := Lib.hid hf'
  have HKX0 := Lib.hid KX0
  have HHV0 := Lib.hid HV0
  clear hf' KX0 HV0
  rcases hd with h1 | ⟨rfl, h1 | ⟨rfl, h1 | ⟨rfl, h1⟩⟩⟩
  · have h2 : (i == si) = false := by simpa using h1
    clear h1
    go_wp2_with fail
    go_quiet (fail)
    have KZ6 : Blk (w1.drewN nq) (w.heap.size + 1) 59 #[.int .i64 0, .int .i64 0, .slice none 0 0, .slice none 0 0] := KZ.out
    obtain ⟨e0, e1, e2, e3, f0, f1, f2, f3⟩ := blk4_cells KZ6
    have hz := grown_z4 (w1.drewN nq) (w.heap.size + 1) (.int .i64 0) (.int .i64 0) (.slice none 0 0) (.slice none 0 0)
    have KF := Lib.hid (blk_z4 KZ6 (.int .i64 0) (.int .i64 0) (.slice none 0 0) (.slice none 0 0))
    have HKX := Lib.hid (Blk.grown (w := w1.drewN nq) HKX0.out hz (fun e => by injection e with e; omega))
    have HHV := Lib.hid (Own.kept (w := w1.drewN nq) HHV0.out hz (.inr (fun e => by have := (Own.lt HI.out.2 _ e).2; omega)))
    have HFIN := Lib.hid ((((But.refl (ptrV g) (.slice A0 sb.length c0) w).then_ hb01.out).then_ (below_drewN (Below.refl _ w1) nq)).grown hz (fun q hq => .inr (by injection hq with hq; omega)))
    clear hz KZ6 KZ HI hb01 h2 r0 r1 r2 r3 r4 u0 u1 u2 u3 u4
    go_wp2_with fail
    refine bodyPost_ret (results_snap2 (fn := Try.f60) rfl _ _ (w.heap.size + 1) _ _ _ _ rfl KF.out) rfl ?_
    have hok : okB ⟨si, st, sm, sn, sb⟩ i t n m l = false := by unfold okB; rw [HF.out]; simp [HN0.out]
    have he : endB ⟨si, st, sm, sn, sb⟩ i t n m l = false := by unfold endB; rw [hok]; rfl
    exact PutPost.mk0 (s' := ⟨si, st, sm, sn, sb⟩) he (by unfold putE; rw [if_neg (by rw [HOK.out]; simp), if_pos hok]) (by unfold putS; rw [if_pos hok]) ⟨HKX.out, HHV.out⟩ HFIN.out (fun q hq => .inl hq)
  · have h2 : (t == st) = false := by simpa using h1
    clear h1
    go_wp2_with fail
    go_quiet (fail)
    have KZ6 : Blk (w1.drewN nq) (w.heap.size + 1) 59 #[.int .i64 0, .int .i64 0, .slice none 0 0, .slice none 0 0] := KZ.out
    obtain ⟨e0, e1, e2, e3, f0, f1, f2, f3⟩ := blk4_cells KZ6
    have hz := grown_z4 (w1.drewN nq) (w.heap.size + 1) (.int .i64 0) (.int .i64 0) (.slice none 0 0) (.slice none 0 0)
    have KF := Lib.hid (blk_z4 KZ6 (.int .i64 0) (.int .i64 0) (.slice none 0 0) (.slice none 0 0))
    have HKX := Lib.hid (Blk.grown (w := w1.drewN nq) HKX0.out hz (fun e => by injection e with e; omega))
    have HHV := Lib.hid (Own.kept (w := w1.drewN nq) HHV0.out hz (.inr (fun e => by have := (Own.lt HI.out.2 _ e).2; omega)))
    have HFIN := Lib.hid ((((But.refl (ptrV g) (.slice A0 sb.length c0) w).then_ hb01.out).then_ (below_drewN (Below.refl _ w1) nq)).grown hz (fun q hq => .inr (by injection hq with hq; omega)))
    clear hz KZ6 KZ HI hb01 h2 r0 r1 r2 r3 r4 u0 u1 u2 u3 u4
    go_wp2_with fail
    refine bodyPost_ret (results_snap2 (fn := Try.f60) rfl _ _ (w.heap.size + 1) _ _ _ _ rfl KF.out) rfl ?_
    have hok : okB ⟨i, st, sm, sn, sb⟩ i t n m l = false := by unfold okB; rw [HF.out]; simp [HN0.out]
    have he : endB ⟨i, st, sm, sn, sb⟩ i t n m l = false := by unfold endB; rw [hok]; rfl
    exact PutPost.mk0 (s' := ⟨i, st, sm, sn, sb⟩) he (by unfold putE; rw [if_neg (by rw [HOK.out]; simp), if_pos hok]) (by unfold putS; rw [if_pos hok]) ⟨HKX.out, HHV.out⟩ HFIN.out (fun q hq => .inl hq)
  · have h2 : (m == sm) = false := by simpa using h1
    clear h1
    go_wp2_with fail
    go_quiet (fail)
    have KZ6 : Blk (w1.drewN nq) (w.heap.size + 1) 59 #[.int .i64 0, .int .i64 0, .slice none 0 0, .slice none 0 0] := KZ.out
    obtain ⟨e0, e1, e2, e3, f0, f1, f2, f3⟩ := blk4_cells KZ6
    have hz := grown_z4 (w1.drewN nq) (w.heap.size + 1) (.int .i64 0) (.int .i64 0) (.slice none 0 0) (.slice none 0 0)
    have KF := Lib.hid (blk_z4 KZ6 (.int .i64 0) (.int .i64 0) (.slice none 0 0) (.slice none 0 0))
    have HKX := Lib.hid (Blk.grown (w := w1.drewN nq) HKX0.out hz (fun e => by injection e with e; omega))
    have HHV := Lib.hid (Own.kept (w := w1.drewN nq) HHV0.out hz (.inr (fun e => by have := (Own.lt HI.out.2 _ e).2; omega)))
    have HFIN := Lib.hid ((((But.refl (ptrV g) (.slice A0 sb.length c0) w).then_ hb01.out).then_ (below_drewN (Below.refl _ w1) nq)).grown hz (fun q hq => .inr (by injection hq with hq; omega)))
    clear hz KZ6 KZ HI hb01 h2 r0 r1 r2 r3 r4 u0 u1 u2 u3 u4
    go_wp2_with fail
    refine bodyPost_ret (results_snap2 (fn := Try.f60) rfl _ _ (w.heap.size + 1) _ _ _ _ rfl KF.out) rfl ?_
    have hok : okB ⟨i, t, sm, sn, sb⟩ i t n m l = false := by unfold okB; rw [HF.out]; simp [HN0.out]
    have he : endB ⟨i, t, sm, sn, sb⟩ i t n m l = false := by unfold endB; rw [hok]; rfl
    exact PutPost.mk0 (s' := ⟨i, t, sm, sn, sb⟩) he (by unfold putE; rw [if_neg (by rw [HOK.out]; simp), if_pos hok]) (by unfold putS; rw [if_pos hok]) ⟨HKX.out, HHV.out⟩ HFIN.out (fun q hq => .inl hq)
  · have h2 : (n == sn) = false := by simpa using h1
    clear h1
    go_wp2_with fail
    go_quiet (fail)
    have KZ6 : Blk (w1.drewN nq) (w.heap.size + 1) 59 #[.int .i64 0, .int .i64 0, .slice none 0 0, .slice none 0 0] := KZ.out
    obtain ⟨e0, e1, e2, e3, f0, f1, f2, f3⟩ := blk4_cells KZ6
    have hz := grown_z4 (w1.drewN nq) (w.heap.size + 1) (.int .i64 0) (.int .i64 0) (.slice none 0 0) (.slice none 0 0)
    have KF := Lib.hid (blk_z4 KZ6 (.int .i64 0) (.int .i64 0) (.slice none 0 0) (.slice none 0 0))
    have HKX := Lib.hid (Blk.grown (w := w1.drewN nq) HKX0.out hz (fun e => by injection e with e; omega))
    have HHV := Lib.hid (Own.kept (w := w1.drewN nq) HHV0.out hz (.inr (fun e => by have := (Own.lt HI.out.2 _ e).2; omega)))
    have HFIN := Lib.hid ((((But.refl (ptrV g) (.slice A0 sb.length c0) w).then_ hb01.out).then_ (below_drewN (Below.refl _ w1) nq)).grown hz (fun q hq => .inr (by injection hq with hq; omega)))
    clear hz KZ6 KZ HI hb01 h2 r0 r1 r2 r3 r4 u0 u1 u2 u3 u4
    go_wp2_with fail
    refine bodyPost_ret (results_snap2 (fn := Try.f60) rfl _ _ (w.heap.size + 1) _ _ _ _ rfl KF.out) rfl ?_
    have hok : okB ⟨i, t, m, sn, sb⟩ i t n m l = false := by unfold okB; rw [HF.out]; simp [HN0.out]
    have he : endB ⟨i, t, m, sn, sb⟩ i t n m l = false := by unfold endB; rw [hok]; rfl
    exact PutPost.mk0 (s' := ⟨i, t, m, sn, sb⟩) he (by unfold putE; rw [if_neg (by rw [HOK.out]; simp), if_pos hok]) (by unfold putS; rw [if_pos hok]) ⟨HKX.out, HHV.out⟩ HFIN.out (fun q hq => .inl hq)

/-- An inbox takes a piece. -/
theorem keepPut_any (g : Nat) (s : Inb) (hs : s.ok) (v : Value) (i t n m : Int) (hi64 : -9223372036854775808 ≤ i ∧ i ≤ 9223372036854775807) (ht64 : -9223372036854775808 ≤ t ∧ t ≤ 9223372036854775807) (hn64 : -9223372036854775808 ≤ n ∧ n ≤ 9223372036854775807) (hm64 : -9223372036854775808 ≤ m ∧ m ≤ 9223372036854775807)
    (A : Option Addr) (l : List UInt8) (k c : Nat) (hk : k = l.length) (w : World) (hI : InbAt w g s v) (hr : Rd w w.heap.size A (cells l)) (hl : l.length ≤ 140737488351232) (hAg : ∀ ad, A = some ad → 0 < l.length → ad.block ≠ g) :
    Calls Try.prog 60 #[.pointer (some ⟨g, 0, none⟩), pcV i t n m A k c] w (PutPost w g v s i t n m l) := by
  by_cases h1 : pcB i t n m l.length = true
  · by_cases h2 : n = 0
    · subst h2
      exact put_first g s hs v i t m hi64 ht64 hm64 A l k c hk w hI hr hl hAg h1
    · by_cases h3 : fitB s i t n m = true
      · exact put_fit g s hs v i t n m hi64 ht64 hn64 hm64 A l k c hk w hI hr hl hAg h2 h1 h3
      · exact put_not g s hs v i t n m hi64 ht64 hn64 hm64 A l k c hk w hI hr hl hAg h2 h1 (by simpa using h3)
  · exact put_bad g s hs v i t n m hi64 ht64 hn64 hm64 A l k c hk w hI hr hl hAg (by simpa using h1)
end Go.Proofs.Ytelplpajpfkfiaa
