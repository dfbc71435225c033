/- The reference's inbox takes a piece: one that fits. Condition: as keepRPut_any says. -/
import Derived.Test.YtelplpajpfkfiaaKeepRPut
set_option linter.unusedVariables false
namespace Go.Proofs.Ytelplpajpfkfiaa
open Go.RowKit Oct

set_option maxHeartbeats 4000000 in
set_option maxRecDepth 100000 in
theorem rput_fit (g : Nat) (s : Inb) (hs : s.ok) (v : Value) (i t n m : Int) (hn64 : -9223372036854775808 ≤ n ∧ n ≤ 9223372036854775807) (hm64 : -9223372036854775808 ≤ m ∧ m ≤ 9223372036854775807)
    (A : Option Addr) (l : List UInt8) (k c : Nat) (hk : k = l.length) (w : World) (hI : RInbAt w g s v) (hr : Rd w w.heap.size A (cells l)) (hl : l.length ≤ 140737488351232) (hAg : ∀ ad, A = some ad → 0 < l.length → ad.block ≠ g) (hn0 : n ≠ 0) (hok : pcB i t n m l.length = true) (hf : fitB s i t n m = true) :
    Calls Try.prog 62 #[.pointer (some ⟨g, 0, none⟩), pcV i t n m A k c] w (RPutPost w g v s i t n m l) := by
  subst hk
  obtain ⟨A0, c0, rfl, hv1, hv2, -⟩ := bs_shape hI.2
  have hmay := Lib.hid (mayPiece_any i t n m A l.length c hm64 ((w.alloc (.cells #[.int .i64 i, .int .i64 t, .int .i64 n, .int .i64 m, .slice A l.length c] 71)).alloc (.cells #[.int .i64 0, .int .i64 0, .slice none 0 0, .slice none 0 0] 59)))
  unfold pcV at hmay ⊢
  have hgl : g < w.heap.size := hI.1.lt
  have hs1 : (w.alloc (.cells #[.int .i64 i, .int .i64 t, .int .i64 n, .int .i64 m, .slice A l.length c] 71)).heap.size = w.heap.size + 1 := by simp
  have hs2 : ((w.alloc (.cells #[.int .i64 i, .int .i64 t, .int .i64 n, .int .i64 m, .slice A l.length c] 71)).alloc (.cells #[.int .i64 0, .int .i64 0, .slice none 0 0, .slice none 0 0] 59)).heap.size = w.heap.size + 2 := by simp
  have KP := (Blk.new w 71 #[.int .i64 i, .int .i64 t, .int .i64 n, .int .i64 m, .slice A l.length c]).alloc (.cells #[.int .i64 0, .int .i64 0, .slice none 0 0, .slice none 0 0] 59)
  have KZ := Blk.new (w.alloc (.cells #[.int .i64 i, .int .i64 t, .int .i64 n, .int .i64 m, .slice A l.length c] 71)) 59 #[.int .i64 0, .int .i64 0, .slice none 0 0, .slice none 0 0]
  rw [hs1] at KZ
  obtain ⟨p0, p1, p2, p3, p4, _, _, _, _, _⟩ := blk5_at KP
  have hb0 := Lib.hid (((Below.refl w.heap.size w).alloc (Nat.le_refl _) (.cells #[.int .i64 i, .int .i64 t, .int .i64 n, .int .i64 m, .slice A l.length c] 71)).alloc (by rw [hs1]; omega) (.cells #[.int .i64 0, .int .i64 0, .slice none 0 0, .slice none 0 0] 59))
  have HZ := Lib.hid hs2
  have KP := Lib.hid KP
  have KZ := Lib.hid KZ
  have HI := Lib.hid hI
  clear hs1 hs2 hI
  go_enter Try.func62, Try.ntmps62
  go_wp2_with fail
  refine hmay.out.mono ?_
  clear hmay
  rintro e w1 ⟨rfl, hb1⟩
  generalize hW0 : (w.alloc (.cells #[.int .i64 i, .int .i64 t, .int .i64 n, .int .i64 m, .slice A l.length c] 71)).alloc (.cells #[.int .i64 0, .int .i64 0, .slice none 0 0, .slice none 0 0] 59) = w0 at hb0 HZ KP KZ hb1 ⊢
  clear hW0 p0 p1 p2 p3 p4
  have hs1 : w.heap.size + 2 ≤ w1.heap.size := by have := hb1.size; rw [HZ.out] at this; exact this
  replace KP := Lib.hid (KP.out.below hb1 (by rw [HZ.out]; omega))
  replace KZ := Lib.hid (KZ.out.below hb1 (by rw [HZ.out]; omega))
  have hb01 := Lib.hid (hb0.out.trans (hb1.mono (by rw [HZ.out]; omega)))
  clear hb1 hb0 HZ
  rw [hok]
  have hokb : okB s i t n m l = true := by unfold okB; rw [hok, hf]; simp
  have hpl : (putB s n l).length ≤ 1640000 ∧ 0 < (putB s n l).length := by have h1 := putB_len hs hokb; have h2 := pcB_spec.1 (okB_spec hokb).1; omega
  have HOKB := Lib.hid hokb
  have HN0 := Lib.hid hn0
  have hnb1 : 0 ≤ n := by have h2 := pcB_spec.1 hok; omega
  have hnb2 : n ≤ 4096 := by have h2 := pcB_spec.1 hok; omega
  have hmb1 : 1 ≤ m := by have h2 := pcB_spec.1 hok; omega
  have hmb2 : m ≤ 4096 := by have h2 := pcB_spec.1 hok; omega
  have hn1 : (n == 0) = false := by simpa using hn0
  have hn2 : 0 < n := by omega
  have HPB : Hid (putB s n l = s.b ++ l) := Lib.hid (by unfold putB; rw [if_neg hn0])
  have hbl : s.b.length + l.length ≤ 1640000 := by have h3 := hpl.1; rw [HPB.out, List.length_append] at h3; exact h3
  have hsb : 0 < s.b.length := by
    rcases hs with rfl | hs
    · exfalso
      unfold fitB inb0 at hf
      simp [hn0] at hf
    · exact hs.1
  have hsb2 : ((s.b.length : Int) == 0) = false := by simpa using (by omega : (s.b.length : Int) ≠ 0)
  unfold fitB at hf
  simp only [Bool.and_eq_true, decide_eq_true_eq] at hf
  obtain ⟨⟨⟨k1, k2⟩, k3⟩, k4⟩ := hf
  have hrn : rn s = n - 1 := by rw [k4]; exact if_neg (by omega)
  have KX0 := Lib.hid (show Blk w1 g 116 #[.int .i64 i, .int .i64 t, .int .i64 (n - 1), .int .i64 m, .slice none 0 0, .slice A0 s.b.length c0] from by rw [← hrn, k1, k2, k3]; exact Blk.below HI.out.1 hb01.out hgl)
  clear k1 k2 k3 k4 hrn hsb
  clear hn0 hokb hok hn64
  obtain ⟨p0, p1, p2, p3, p4, _, _, _, _, _⟩ := blk5_at KP.out
  obtain ⟨r0, r1, r2, r3, r4, r5, u0, u1, u2, u3, u4, u5⟩ := blk6_at KX0.out
  go_wp2_with fail
  go_quiet (fail)
  replace KP := Lib.hid (show Blk (w1.drewN nq) w.heap.size 71 _ from KP.out)
  replace KZ := Lib.hid (show Blk (w1.drewN nq) (w.heap.size + 1) 59 _ from KZ.out)
  have HBUT := Lib.hid (((But.refl (ptrV g) (.slice A0 s.b.length c0) w).then_ hb01.out).then_ (below_drewN (Below.refl _ w1) nq))
  have HRL := Lib.hid (Rd.drewN (hr.below hb01.out) nq)
  have KX := Lib.hid (show Blk (w1.drewN nq) g 116 _ from KX0.out)
  have hs2 : w.heap.size + 2 ≤ (w1.drewN nq).heap.size := hs1
  have HV : Hid (Bs (w1.drewN nq) (g + 1) (.slice A0 s.b.length c0) s.b) := Lib.hid (show Bs w1 _ _ _ from Own.below HI.out.2 hb01.out (Nat.le_refl _))
  have HQ : Hid (∀ q, Value.ownBlock (.slice A0 s.b.length c0) = some q → g < q ∧ q < w.heap.size) := Lib.hid (fun q hq => by have := Own.lt HI.out.2 q hq; omega)
  have HNX : Hid (Next (.slice A0 s.b.length c0) (.slice A0 s.b.length c0) w.heap.size) := Lib.hid (fun q hq => .inl hq)
  go_upto_region 8 with fail
  generalize hW2 : w1.drewN nq = w2 at KX KP KZ HBUT HRL hs2 HV ⊢
  clear hW2 KX0 r0 r1 r2 r3 r4 r5 u0 u1 u2 u3 u4 u5 p0 p1 p2 p3 p4 hb01 HI hs1 hn1 hn2 hsb2
  obtain ⟨x0, x1, x2, x3, x4, x5, y0, y1, y2, y3, y4, y5⟩ := blk6_at KX.out
  obtain ⟨p0, p1, p2, p3, p4, _, _, _, _, _⟩ := blk5_at KP.out
  have hz8 := grown_z5 w2 g (.int .i64 i) (.int .i64 t) (.int .i64 n) (.int .i64 m) (.slice none 0 0)
  have KX8 := Lib.hid (blk_z56 KX.out (.int .i64 i) (.int .i64 t) (.int .i64 n) (.int .i64 m) (.slice none 0 0))
  have KP8 := Lib.hid (KP.out.grown hz8 (fun e => by injection e with e; omega))
  have KZ8 := Lib.hid (KZ.out.grown hz8 (fun e => by injection e with e; omega))
  have HBUT8 := Lib.hid (HBUT.out.bump hz8)
  have HV8 := Lib.hid (Own.far HV.out hz8 (by omega))
  have HRL8 := Lib.hid (HRL.out.grown_ne hz8 (by omega) (fun ad had hn e => hAg ad had (by simpa [cells] using hn) (by injection e)))
  have hs8 : w.heap.size + 2 ≤ (((((w2.setCell ⟨g, 0, none⟩ (.int .i64 i)).setCell ⟨g, 1, none⟩ (.int .i64 t)).setCell ⟨g, 2, none⟩ (.int .i64 n)).setCell ⟨g, 3, none⟩ (.int .i64 m)).setCell ⟨g, 4, none⟩ (.slice none 0 0)).heap.size := Nat.le_trans hs2 hz8.size
  go_upto_region 9 with fail
  generalize hW8 : ((((w2.setCell ⟨g, 0, none⟩ (.int .i64 i)).setCell ⟨g, 1, none⟩ (.int .i64 t)).setCell ⟨g, 2, none⟩ (.int .i64 n)).setCell ⟨g, 3, none⟩ (.int .i64 m)).setCell ⟨g, 4, none⟩ (.slice none 0 0) = w8 at KX8 KP8 KZ8 HBUT8 HV8 HRL8 hs8 ⊢
  clear hW8 hz8 x0 x1 x2 x3 x4 x5 y0 y1 y2 y3 y4 y5 p0 p1 p2 p3 p4 KX KP KZ HBUT HV HRL hs2
  obtain ⟨x0, x1, x2, x3, x4, x5, y0, y1, y2, y3, y4, y5⟩ := blk6_at KX8.out
  obtain ⟨p0, p1, p2, p3, p4, _, _, _, _, _⟩ := blk5_at KP8.out
  refine wp_region_heldT 10 (by kernel_rfl) (S := fun W => W.cell? ⟨g, 5, none⟩ = some (.slice A0 s.b.length c0) ∧ W.cell? ⟨w.heap.size, 4, none⟩ = some (.slice A l.length c) ∧ True ∧ True) ⟨x5, p4, trivial, trivial⟩ (fun hHeld => ?_)
  refine heldT_take 0 (v := ?_) (by simp) (by kernel_rfl) (by kernel_rfl) (by kernel_rfl) (by kernel_rfl) (fun _ _ _ h => h) (Or.inl ⟨by rfl, ?_⟩) hHeld ?_
  case refine_2 => (intro w hSw; (try dsimp only at hSw); (try (obtain ⟨s0, s1, s2, s3⟩ := hSw)); simp only [List.getElem_cons_zero]; go_simp <;> with_reducible rfl)
  simp only [List.getElem_cons_zero, Act.put, List.setIfInBounds_toArray, List.set_cons_zero, List.set_cons_succ]
  refine heldT_take 1 (v := ?_) (by simp) (by kernel_rfl) (by kernel_rfl) (by kernel_rfl) (by kernel_rfl) (fun _ _ _ h => h) (Or.inl ⟨by rfl, ?_⟩) hHeld ?_
  case refine_2 => (intro w hSw; (try dsimp only at hSw); (try (obtain ⟨s0, s1, s2, s3⟩ := hSw)); simp only [List.getElem_cons_zero, List.getElem_cons_succ]; go_simp <;> with_reducible rfl)
  simp only [List.getElem_cons_zero, List.getElem_cons_succ, Act.put, List.setIfInBounds_toArray, List.set_cons_zero, List.set_cons_succ]
  refine heldT_take 2 (v := ?_) (by simp) (by kernel_rfl) (by kernel_rfl) (by kernel_rfl) (by kernel_rfl) (fun _ _ _ h => h) (Or.inl ⟨by rfl, ?_⟩) hHeld ?_
  case refine_2 => (intro w hSw; (try dsimp only at hSw); (try (obtain ⟨s0, s1, s2, s3⟩ := hSw)); simp only [List.getElem_cons_zero, List.getElem_cons_succ]; go_simp <;> with_reducible rfl)
  simp only [List.getElem_cons_zero, List.getElem_cons_succ, Act.put, List.setIfInBounds_toArray, List.set_cons_zero, List.set_cons_succ]
  refine heldT_take 3 (v := ?_) (by simp) (by kernel_rfl) (by kernel_rfl) (by kernel_rfl) (by kernel_rfl) (fun _ _ _ h => h) (Or.inl ⟨by rfl, ?_⟩) hHeld ?_
  case refine_2 => (intro w hSw; (try dsimp only at hSw); (try (obtain ⟨s0, s1, s2, s3⟩ := hSw)); simp only [List.getElem_cons_zero, List.getElem_cons_succ]; go_simp <;> with_reducible rfl)
  simp only [List.getElem_cons_zero, List.getElem_cons_succ, Act.put, List.setIfInBounds_toArray, List.set_cons_zero, List.set_cons_succ]
  refine heldT_take 4 (v := ?_) (by simp) (by kernel_rfl) (by kernel_rfl) (by kernel_rfl) (by kernel_rfl) (fun _ _ _ h => h) (Or.inl ⟨by rfl, ?_⟩) hHeld ?_
  case refine_2 => (intro w hSw; (try dsimp only at hSw); (try (obtain ⟨s0, s1, s2, s3⟩ := hSw)); simp only [List.getElem_cons_zero, List.getElem_cons_succ]; go_simp <;> with_reducible rfl)
  simp only [List.getElem_cons_zero, List.getElem_cons_succ, Act.put, List.setIfInBounds_toArray, List.set_cons_zero, List.set_cons_succ]
  refine heldT_take 5 (v := ?_) (by simp) (by kernel_rfl) (by kernel_rfl) (by kernel_rfl) (by kernel_rfl) (fun _ _ _ h => h) (Or.inl ⟨by rfl, ?_⟩) hHeld ?_
  case refine_2 => (intro w hSw; (try dsimp only at hSw); (try (obtain ⟨s0, s1, s2, s3⟩ := hSw)); simp only [List.getElem_cons_zero, List.getElem_cons_succ]; go_simp <;> with_reducible rfl)
  simp only [List.getElem_cons_zero, List.getElem_cons_succ, Act.put, List.setIfInBounds_toArray, List.set_cons_zero, List.set_cons_succ]
  refine heldT_take 6 (v := ?_) (by simp) (by kernel_rfl) (by kernel_rfl) (by kernel_rfl) (by kernel_rfl) (fun _ _ _ h => h) (Or.inl ⟨by rfl, ?_⟩) hHeld ?_
  case refine_2 => (intro w hSw; (try dsimp only at hSw); (try (obtain ⟨s0, s1, s2, s3⟩ := hSw)); simp only [List.getElem_cons_zero, List.getElem_cons_succ]; go_simp <;> with_reducible rfl)
  simp only [List.getElem_cons_zero, List.getElem_cons_succ, Act.put, List.setIfInBounds_toArray, List.set_cons_zero, List.set_cons_succ]
  refine heldT_sole 7 (by simp) (by kernel_rfl) (fun K hK => ?_)
  simp only [List.getElem_cons_zero, List.getElem_cons_succ]
  rw [if_pos (by rfl)]
  refine wp_append_any (.tmp 90) (.tmp 92) 22 rfl (g + 1) 5 (.int .u8 0) 1 Try.underlying22 info_u8 rfl _ _ rfl (show Bs w8.drew (g + 1) (.slice A0 s.b.length c0) s.b from HV8.out) w.heap.size A l.length c _ rfl (cells_length _).symm (show Rd w8.drew w.heap.size A (cells l) from HRL8.out) (bytes_oneCell _) (by rw [cells_length]; unfold maxLen; omega) (by rw [cells_length]; omega) (by show g + 1 ≤ w8.heap.size; omega) ?_
  intro v3 w3 hown3 hg3 hf3
  rw [← cells_append] at hown3
  have HV3 : Hid (Bs w3 (g + 1) v3 (s.b ++ l)) := Lib.hid hown3
  have hbk : ∀ b, b < w8.heap.size → (∀ q, Value.ownBlock (.slice A0 s.b.length c0) = some q → b ≠ q) → w3.heap[b]? = w8.heap[b]? := fun b hb hne => hg3.block b hb (fun e => hne b e.symm rfl)
  have KX3 : Blk w3 g 116 #[.int .i64 i, .int .i64 t, .int .i64 n, .int .i64 m, .slice none 0 0, (.slice A0 s.b.length c0)] := (hbk g (by omega) (fun q hq => by have := HQ.out q hq; omega)).trans KX8.out
  have KP3 : Blk w3 w.heap.size 71 _ := (hbk w.heap.size (by omega) (fun q hq => by have := HQ.out q hq; omega)).trans KP8.out
  have KZ3 : Blk w3 (w.heap.size + 1) 59 _ := (hbk (w.heap.size + 1) (by omega) (fun q hq => by have := HQ.out q hq; omega)).trans KZ8.out
  have HBUT3 : But (ptrV g) (.slice A0 s.b.length c0) w w3 := HBUT8.out.grown (w1 := w8) ⟨hg3.os, hg3.tape, hg3.output, hg3.size, hg3.block⟩ (fun q hq => HNX.out q hq)
  have HN3 : Hid (Next (.slice A0 s.b.length c0) v3 w.heap.size) := Lib.hid (fun q hq => by
    rcases hf3 with hf3 | ⟨g', hf3, hg'⟩
    · exact HNX.out q (hf3.symm.trans hq)
    · rw [hf3] at hq
      injection hq with hq
      subst hq
      have h1 : w8.heap.size ≤ g' := hg'
      exact .inr (by omega))
  have HQ3 : Hid (∀ q, v3.ownBlock = some q → q < w.heap.size ∨ w.heap.size + 2 ≤ q) := Lib.hid (fun q hq => by
    rcases hf3 with hf3 | ⟨g', hf3, hg'⟩
    · exact .inl (HQ.out q (hf3.symm.trans hq)).2
    · rw [hf3] at hq
      injection hq with hq
      subst hq
      have h1 : w8.heap.size ≤ g' := hg'
      exact .inr (by omega))
  have hs3 : w.heap.size + 2 ≤ w3.heap.size := Nat.le_trans hs8 hg3.size
  obtain ⟨bb, hbb⟩ : ∃ bb, bb = s.b ++ l := ⟨_, rfl⟩
  rw [← hbb] at HV3 HPB
  rw [HPB.out] at hpl
  clear hbb
  obtain ⟨A3, c3, rfl, hc3, hm3, -⟩ := bs_shape HV3.out
  obtain ⟨x0, x1, x2, x3, x4, x5, y0, y1, y2, y3, y4, y5⟩ := blk6_at KX3
  obtain ⟨p0, p1, p2, p3, p4, _, _, _, _, _⟩ := blk5_at KP3
  clear hown3 hf3 hg3
  refine hK.out _ _ ⟨x5, p4, trivial, trivial⟩ (fun hHeld => ?_)
  clear hK K
  try simp only [Act.put, List.setIfInBounds_toArray, List.set_cons_zero, List.set_cons_succ]
  refine heldT_sole 8 (by simp) (by kernel_rfl) (fun K hK => ?_)
  simp only [List.getElem_cons_zero, List.getElem_cons_succ]
  go_simp
  refine hK.out _ _ ⟨x5, p4, trivial, trivial⟩ (fun hHeld => ?_)
  clear hK K
  try simp only [Act.put, List.setIfInBounds_toArray, List.set_cons_zero, List.set_cons_succ]
  refine heldT_take 9 (v := ?_) (by simp) (by kernel_rfl) (by kernel_rfl) (by kernel_rfl) (by kernel_rfl) (fun _ _ _ h => h) (Or.inl ⟨by rfl, ?_⟩) hHeld ?_
  case refine_2 => (intro w hSw; (try dsimp only at hSw); (try (obtain ⟨s0, s1, s2, s3⟩ := hSw)); simp only [List.getElem_cons_zero, List.getElem_cons_succ]; go_simp <;> with_reducible rfl)
  simp only [List.getElem_cons_zero, List.getElem_cons_succ, Act.put, List.setIfInBounds_toArray, List.set_cons_zero, List.set_cons_succ]
  refine heldT_last (t := 10) (by simp) (by kernel_rfl) (by kernel_rfl) (fun K hK => ?_)
  simp only [List.getElem_cons_zero, List.getElem_cons_succ]
  go_simp
  refine hK.out _ _ ?_
  clear hK K hHeld
  have hLN : Hid (bb.length ≤ 1640000 ∧ 0 < bb.length) := Lib.hid hpl
  have KX4 := Lib.hid (show Blk (w3.setCell ⟨g, 5, none⟩ (.slice A3 bb.length c3)) g 116 #[.int .i64 i, .int .i64 t, .int .i64 n, .int .i64 m, .slice none 0 0, .slice A3 bb.length c3] from Blk.set_ KX3 5 _)
  have HV4 := Lib.hid (show Bs (w3.setCell ⟨g, 5, none⟩ (.slice A3 bb.length c3)) (g + 1) (.slice A3 bb.length c3) bb from Own.far HV3.out (grown_setCell w3 g 5 _) (by omega))
  have KP4 := Lib.hid (Blk.far (p := ⟨g, 5, none⟩) KP3 (by show w.heap.size ≠ g; omega) (.slice A3 bb.length c3))
  have KZ4 := Lib.hid (Blk.far (p := ⟨g, 5, none⟩) KZ3 (by show w.heap.size + 1 ≠ g; omega) (.slice A3 bb.length c3))
  have HBUT4 := Lib.hid (HBUT3.set (g := g) rfl 5 (.slice A3 bb.length c3))
  have hs4 : w.heap.size + 2 ≤ (w3.setCell ⟨g, 5, none⟩ (.slice A3 bb.length c3)).heap.size := by simp; omega
  generalize hW4 : w3.setCell ⟨g, 5, none⟩ (.slice A3 bb.length c3) = w4 at KX4 HV4 KP4 KZ4 HBUT4 hs4 ⊢
  clear hW4 KX3 KP3 KZ3 HBUT3 HV3 hs3 hbk HV8 KX8 KP8 KZ8 HBUT8 HRL8 hs8 HNX HQ x0 x1 x2 x3 x4 x5 y0 y1 y2 y3 y4 y5 p0 p1 p2 p3 p4
  obtain ⟨p0, p1, p2, p3, p4, _, _, _, _, _⟩ := blk5_at KP4.out
  by_cases hlt : n < m - 1
  · obtain ⟨e0, e1, e2, e3, f0, f1, f2, f3⟩ := blk4_cells KZ4.out
    have KF := Lib.hid (blk_z4 KZ4.out (.int .i64 0) (.int .i64 0) (.slice none 0 0) (.slice none 0 0))
    have hZ4 := Lib.hid (grown_z4 w4 (w.heap.size + 1) (.int .i64 0) (.int .i64 0) (.slice none 0 0) (.slice none 0 0))
    have HE : Hid (endB s i t n m l = false ∧ putE s i t n m l = 0 ∧ putS s i t n m l = ⟨i, t, m, n + 1, bb⟩) := Lib.hid (put_more HOKB.out HPB.out (by omega))
    have HRN : Hid (rn ⟨i, t, m, n + 1, bb⟩ = n) := Lib.hid (by unfold rn; simp only; rw [if_neg (by omega)]; omega)
    have HKX := Lib.hid (KX4.out.grown hZ4.out (fun e => by injection e with e; omega))
    have HHV := Lib.hid (Own.kept HV4.out hZ4.out (.inr (fun e => by have := HQ3.out _ e; omega)))
    have HFIN := Lib.hid (HBUT4.out.grown hZ4.out (fun q hq => .inr (by injection hq with hq; omega)))
    clear hZ4 KX4 KZ4 KP4 HV4 HBUT4
    (try clear hl); (try clear hr); (try clear hAg); (try clear hpl); (try clear hbl); (try clear hc3); (try clear hm3); (try clear hs); (try clear hv1); (try clear hv2); (try clear hnb1); (try clear hnb2); (try clear hm64); (try clear hn1)
    go_wp2_with fail
    refine bodyPost_ret (results_snap2 (fn := Try.f62) rfl _ _ (w.heap.size + 1) _ _ _ _ rfl KF.out) rfl ?_
    obtain ⟨h1, h2, h3⟩ := HE.out
    exact RPutPost.mk0 (s' := ⟨i, t, m, n + 1, bb⟩) h1 h2 h3 ⟨by rw [HRN.out]; exact HKX.out, HHV.out⟩ HFIN.out HN3.out
  · have HE : Hid (endB s i t n m l = sameB bb i t ∧ putE s i t n m l = (if sameB bb i t = true then 0 else 54) ∧ putS s i t n m l = inb0) := Lib.hid (put_end HOKB.out HPB.out (by omega))
    obtain ⟨x0, x1, x2, x3, x4, x5, y0, y1, y2, y3, y4, y5⟩ := blk6_at KX4.out
    clear HOKB
    go_wp2_with fail
    refine (rread_any A3 bb _ c3 rfl w4 (own_rd HV4.out) hc3 (by have := hLN.out; omega) hm3).mono ?_
    rintro e w7 ⟨V, rfl, hV, hb7⟩
    obtain ⟨vx, vy, rfl, hvx, hvy, hvxy⟩ := hV
    obtain ⟨Avx, cvx, rfl, -⟩ := is_shape hvx
    obtain ⟨Avy, cvy, rfl, -⟩ := bs_shape hvy
    have hs7 : w.heap.size + 2 ≤ w7.heap.size := Nat.le_trans hs4 hb7.size
    have KX7 := KX4.out.below hb7 (by omega)
    have KP7 := KP4.out.below hb7 (by omega)
    have KZ7 := KZ4.out.below hb7 (by omega)
    have HBUT7 := HBUT4.out.then_ hb7
    have HVXY := Lib.hid hvxy
    clear hb7 KX4 KP4 KZ4 HBUT4 HV4 hvxy x0 x1 x2 x3 x4 x5 y0 y1 y2 y3 y4 y5 p0 p1 p2 p3 p4
    have hbV : Below w7.heap.size w7 (w7.alloc (.cells #[.int .i64 (oI bb), .int .i64 (oT bb), .slice Avx (oZ bb).length cvx, .slice Avy (oD bb).length cvy] 59)) := (Below.refl _ w7).alloc (Nat.le_refl _) _
    have KV8 := Lib.hid (Blk.new w7 59 #[.int .i64 (oI bb), .int .i64 (oT bb), .slice Avx (oZ bb).length cvx, .slice Avy (oD bb).length cvy])
    have KX8 := KX7.below hbV (by omega)
    have KP8 := KP7.below hbV (by omega)
    have KZ8 := KZ7.below hbV (by omega)
    have HBUT8 := HBUT7.then_ hbV
    have HVX8 := Own.below hvx hbV (Nat.le_refl _)
    have HVY8 := Own.below hvy hbV (Nat.le_refl _)
    obtain ⟨x0, x1, x2, x3, x4, x5, y0, y1, y2, y3, y4, y5⟩ := blk6_at KX8
    have hZ5 := grown_z5 ((w7.alloc (.cells #[.int .i64 (oI bb), .int .i64 (oT bb), .slice Avx (oZ bb).length cvx, .slice Avy (oD bb).length cvy] 59)).setCell ⟨g, 5, none⟩ (.slice none 0 0)) g (.int .i64 0) (.int .i64 0) (.int .i64 0) (.int .i64 0) (.slice none 0 0)
    have hZ := grown_then (grown_setCell (w7.alloc (.cells #[.int .i64 (oI bb), .int .i64 (oT bb), .slice Avx (oZ bb).length cvx, .slice Avy (oD bb).length cvy] 59)) g 5 (.slice none 0 0)) hZ5 (.inl rfl)
    have KX9 := Lib.hid (blk_z56 (Blk.set_ KX8 5 (.slice none 0 0)) (.int .i64 0) (.int .i64 0) (.int .i64 0) (.int .i64 0) (.slice none 0 0))
    have KP9 := Lib.hid (KP8.grown hZ (fun e => by injection e with e; omega))
    have KZ9 := Lib.hid (KZ8.grown hZ (fun e => by injection e with e; omega))
    have KV9 := Lib.hid (KV8.out.grown hZ (fun e => by injection e with e; omega))
    have HBUT9 := Lib.hid (HBUT8.bump hZ)
    have HVX9 := Lib.hid (Own.far HVX8 hZ (by omega))
    have HVY9 := Lib.hid (Own.far HVY8 hZ (by omega))
    clear hZ hZ5 hbV KX7 KP7 KZ7 HBUT7 KX8 KP8 KZ8 HBUT8 HVX8 HVY8 hvx hvy KV8
    go_upto_region 15 with fail
    generalize hW9 : World.setCell _ ⟨g, 4, none⟩ (.slice none 0 0) = w9 at KX9 KP9 KZ9 KV9 HBUT9 HVX9 HVY9 ⊢
    clear hW9 x0 x1 x2 x3 x4 x5 y0 y1 y2 y3 y4 y5
    obtain ⟨p0, p1, p2, p3, p4, _, _, _, _, _⟩ := blk5_at KP9.out
    obtain ⟨q0, q1, q2, q3, _, _, _, _⟩ := blk4_cells KV9.out
    obtain ⟨e0, e1, e2, e3, f0, f1, f2, f3⟩ := blk4_cells KZ9.out
    have HRI : Hid (rn inb0 = 0) := Lib.hid rfl
    by_cases hsm : sameB bb i t = true
    · obtain ⟨s1, s2, s3⟩ := sameB_true hsm
      have HSM := Lib.hid hsm
      have HS23 := Lib.hid (And.intro s2 s3)
      rw [s1]
      rw [s2] at q0
      rw [s3] at q1
      have hz := grown_z4 w9 (w.heap.size + 1) (.int .i64 i) (.int .i64 t) (.slice Avx (oZ bb).length cvx) (.slice Avy (oD bb).length cvy)
      have KF := Lib.hid (blk_z4 KZ9.out (.int .i64 i) (.int .i64 t) (.slice Avx (oZ bb).length cvx) (.slice Avy (oD bb).length cvy))
      have HKX := Lib.hid (KX9.out.grown hz (fun e => by injection e with e; omega))
      have HFIN := Lib.hid (HBUT9.out.grown hz (fun q hq => .inr (by injection hq with hq; omega)))
      have HX10 := Lib.hid (Own.far HVX9.out hz (by omega))
      have HY10 := Lib.hid (Own.far HVY9.out hz (by omega))
      clear hz hsm s1 s2 s3 KX9 KP9 KZ9 KV9 HBUT9 HVX9 HVY9
      (try clear hl); (try clear hr); (try clear hAg); (try clear hpl); (try clear hbl); (try clear hc3); (try clear hm3); (try clear hs); (try clear hv1); (try clear hv2); (try clear hnb1); (try clear hnb2); (try clear hm64); (try clear hn1); (try clear hlt)
      go_wp2_with fail
      refine bodyPost_ret (results_snap2 (fn := Try.f62) rfl _ _ (w.heap.size + 1) _ _ _ _ rfl KF.out) rfl ?_
      obtain ⟨h1, h2, h3⟩ := HE.out
      rw [HSM.out] at h1 h2
      rw [if_pos rfl] at h2
      exact RPutPost.mk' (s' := inb0) (v' := .slice none 0 0) h1 h2 h3 (by rw [HPB.out]; exact HS23.out.1) (by rw [HPB.out]; exact HS23.out.2) (by rw [HPB.out]; rfl) (by rw [HPB.out]; rfl) ⟨_, _, rfl, Own.mono HX10.out (by omega), Own.mono HY10.out (by omega), HVXY.out⟩ ⟨by rw [HRI.out]; exact HKX.out, Own.nil _ _ _⟩ HFIN.out (fun q hq => by simp [Value.ownBlock] at hq) (fun _ => rfl) (fun h => by cases h)
    · have hsm' : sameB bb i t = false := by simpa using hsm
      have HSM := Lib.hid hsm'
      have hz := grown_z4 w9 (w.heap.size + 1) (.int .i64 0) (.int .i64 0) (.slice none 0 0) (.slice none 0 0)
      have KF := Lib.hid (blk_z4 KZ9.out (.int .i64 0) (.int .i64 0) (.slice none 0 0) (.slice none 0 0))
      have HKX := Lib.hid (KX9.out.grown hz (fun e => by injection e with e; omega))
      have HFIN := Lib.hid (HBUT9.out.grown hz (fun q hq => .inr (by injection hq with hq; omega)))
      have hcase : oE bb = 4 ∨ oE bb = 0 ∧ oI bb ≠ i ∨ oE bb = 0 ∧ oI bb = i ∧ oT bb ≠ t := by
        unfold sameB at hsm'
        by_cases hr : readB bb = true
        · simp only [hr, Bool.true_and, Bool.and_eq_false_iff, decide_eq_false_iff_not] at hsm'
          by_cases h4 : rI bb = i
          · exact .inr (.inr ⟨by simp [oE, hr], by simp [oI, hr, h4], by simp [oT, hr]; rcases hsm' with h5 | h5; exact absurd h4 h5; exact h5⟩)
          · exact .inr (.inl ⟨by simp [oE, hr], by simpa [oI, hr] using h4⟩)
        · exact .inl (by simp [oE, hr])
      clear hz hsm hsm' KX9 KP9 KZ9 KV9 HBUT9 HVX9 HVY9
      (try clear hl); (try clear hr); (try clear hAg); (try clear hpl); (try clear hbl); (try clear hc3); (try clear hm3); (try clear hs); (try clear hv1); (try clear hv2); (try clear hnb1); (try clear hnb2); (try clear hm64); (try clear hn1); (try clear hlt)
      rcases hcase with h4 | ⟨h4, h5⟩ | ⟨h4, h5, h6⟩
      · rw [h4]
        clear h4
        go_wp2_with fail
        refine bodyPost_ret (results_snap2 (fn := Try.f62) rfl _ _ (w.heap.size + 1) _ _ _ _ rfl KF.out) rfl ?_
        obtain ⟨h1, h2, h3⟩ := HE.out
        rw [HSM.out] at h1 h2
        exact RPutPost.mk0 (s' := inb0) (v' := .slice none 0 0) h1 h2 h3 ⟨by rw [HRI.out]; exact HKX.out, Own.nil _ _ _⟩ HFIN.out (fun q hq => by simp [Value.ownBlock] at hq)
      · rw [h4]
        have h7 : (oI bb != i) = true := by simpa using h5
        clear h4 h5
        go_wp2_with fail
        refine bodyPost_ret (results_snap2 (fn := Try.f62) rfl _ _ (w.heap.size + 1) _ _ _ _ rfl KF.out) rfl ?_
        obtain ⟨h1, h2, h3⟩ := HE.out
        rw [HSM.out] at h1 h2
        exact RPutPost.mk0 (s' := inb0) (v' := .slice none 0 0) h1 h2 h3 ⟨by rw [HRI.out]; exact HKX.out, Own.nil _ _ _⟩ HFIN.out (fun q hq => by simp [Value.ownBlock] at hq)
      · rw [h4]
        rw [h5] at q0
        have h7 : (oT bb != t) = true := by simpa using h6
        clear h4 h5 h6
        go_wp2_with fail
        refine bodyPost_ret (results_snap2 (fn := Try.f62) rfl _ _ (w.heap.size + 1) _ _ _ _ rfl KF.out) rfl ?_
        obtain ⟨h1, h2, h3⟩ := HE.out
        rw [HSM.out] at h1 h2
        exact RPutPost.mk0 (s' := inb0) (v' := .slice none 0 0) h1 h2 h3 ⟨by rw [HRI.out]; exact HKX.out, Own.nil _ _ _⟩ HFIN.out (fun q hq => by simp [Value.ownBlock] at hq)
end Go.Proofs.Ytelplpajpfkfiaa
