/- pavanelaw23.act: Append. Condition: the disks within bounds. -/
import Derived.Test.YteehkcpokgeipaaGreatDoorKeepActG
set_option linter.unusedVariables false
set_option linter.unusedSimpArgs false
namespace Go.Proofs.YteehkcpokgeipaaGreatDoor
open Go.RowKit Go.Maps Go.Sort Oct
set_option maxHeartbeats 8000000 in
set_option maxRecDepth 100000 in
theorem kact4_any {W : World} {lo g m g2 k : Nat} {d : DkD} (a : ActD) (hS : KS W lo g m g2 d d (fun _ => False)) (hP : PlayOk k d) (hk : k < 60) (hA : a.Ok W lo) (hF : ∀ W', Below lo W W' → Facts W') (ho : a.o = 4) (hdl : a.s.l.length ≤ 65536) (hbl : a.b.length ≤ 65536) :
  Calls Tryz.prog 10 #[.pointer (some ⟨g, 0, none⟩), .pointer (some ⟨g2, 0, none⟩), .agg a.cs.toArray] W fun e w' => e = .returned (.bool true) ∧ ActTo W lo g m g2 k w' := by
 have hlo := hS.size
 unfold ActD.cs
 obtain ⟨o, n, mm, ⟨i, t, Av, z, cv, Ad, l, cd⟩, Ak, kz, ck, nm, Ab, b, cb⟩ := a
 simp only at ho hdl hbl hA ⊢
 subst ho
 obtain ⟨hs, hz8, hn, hm, hkd, hkb, hkl, hnl, hb⟩ := hA
 obtain ⟨hsv, hsd, hsz, hszl, hsdl, hsi⟩ := hs
 simp only at hz8 hn hm hkd hkb hkl hnl hb hsv hsd hsz hszl hsdl hsi
 obtain ⟨wA, hwA⟩ : ∃ wA, wA = W.alloc (.cells #[.int .i64 4, .int .i64 n, .int .i64 mm, .int .i64 i, .int .i64 t, .slice Av z.length cv, .slice Ad l.length cd, .slice Ak kz.length ck, .string nm, .slice Ab b.length cb] 39) := ⟨_, rfl⟩
 have hbA : Below W.heap.size W wA := by rw [hwA]; exact (Below.refl _ W).alloc (Nat.le_refl _) _
 have hKA : Blk wA W.heap.size 39 #[.int .i64 4, .int .i64 n, .int .i64 mm, .int .i64 i, .int .i64 t, .slice Av z.length cv, .slice Ad l.length cd, .slice Ak kz.length ck, .string nm, .slice Ab b.length cb] := by rw [hwA]; exact Blk.new W 39 _
 have hsA : W.heap.size < wA.heap.size := hKA.lt
 have HSA := Lib.hid (hS.fresh hbA)
 have HBA := Lib.hid (hbA.mono hlo)
 have HBW := Lib.hid hbA
 have HKA := Lib.hid hKA
 have HWA := Lib.hid hwA
 have HP := Lib.hid hP
 have HF := Lib.hid hF
 have HSV := Lib.hid hsv
 have HSD := Lib.hid hsd
 have HSZ := Lib.hid hsz
 have HKD := Lib.hid hkd
 have HKB := Lib.hid hkb
 have HRB := Lib.hid hb
 have HS0 := Lib.hid hS
 have HSI := Lib.hid hsi
 have HN := Lib.hid hn
 have HM := Lib.hid hm
 obtain ⟨k0, k1, k2, k3, k4, k5, k6, k7, k8, k9⟩ := blk10_cells hKA
 clear hwA hbA hP hF hsv hsd hsz hkd hkb hb hS hsi hn hm
 go_enter Tryz.func10, Tryz.ntmps10
 go_upto_region 22 with (fail)
 rw [← HWA.out]
 obtain ⟨RR, hRR⟩ : ∃ RR, RR = d.append nm.data.toList [b] := ⟨_, rfl⟩
 have HRR := Lib.hid hRR
 have hAP := fun (W1 : World) (A1 : Option Addr) (H : Nat → Prop) (hS1 : KS W1 lo g m g2 d d H) (hh : ∀ q, H q → q < W1.heap.size) (hb1 : Below lo wA W1) (hr1 : Rd W1 W1.heap.size A1 [.slice Ab b.length cb]) => kp_append hS1 hh HP.out (by omega) nm hnl A1 ⟨Ab, b, cb⟩ hr1 ((HRB.out.below (HBA.out.trans hb1)).more hS1.size) hbl
 have hRP := fun (W1 : World) (A1 : Option Addr) (H : Nat → Prop) (d1 : DkD) (hS1 : KS W1 lo g m g2 d1 d H) (hh : ∀ q, H q → q < W1.heap.size) (hb1 : Below lo wA W1) (hr1 : Rd W1 W1.heap.size A1 [.slice Ab b.length cb]) => kr_append hS1 hh HP.out (by omega) nm hnl A1 ⟨Ab, b, cb⟩ hr1 ((HRB.out.below (HBA.out.trans hb1)).more hS1.size) hbl
 simp only [← hRR] at hAP hRP
 have HAP := Lib.hid hAP
 have HRP := Lib.hid hRP
 have HKC : Hid (∀ W1 : World, (∀ q, W.heap.size ≤ q → q < wA.heap.size → W1.heap[q]? = wA.heap[q]?) → W1.cell? ⟨W.heap.size, 8, none⟩ = some (.string nm) ∧ W1.cell? ⟨W.heap.size, 9, none⟩ = some (.slice Ab b.length cb) ∧ True ∧ True) := Lib.hid fun W1 h => by
  have hB : Blk W1 W.heap.size 39 #[.int .i64 4, .int .i64 n, .int .i64 mm, .int .i64 i, .int .i64 t, .slice Av z.length cv, .slice Ad l.length cd, .slice Ak kz.length ck, .string nm, .slice Ab b.length cb] := (h W.heap.size (Nat.le_refl _) hsA).trans hKA
  obtain ⟨-, -, -, -, -, -, -, -, h8, h9⟩ := blk10_cells hB
  exact ⟨h8, h9, trivial, trivial⟩
 clear k0 k1 k2 k3 k4 k5 k6 k7 hRR hAP hRP
 refine wp_region_held_drew (by kernel_rfl) (S := fun W' => W'.cell? ⟨W.heap.size, 8, none⟩ = some (.string nm) ∧ W'.cell? ⟨W.heap.size, 9, none⟩ = some (.slice Ab b.length cb) ∧ True ∧ True) ⟨k8, k9, trivial, trivial⟩ (fun hHeld => ?_)
 refine held_take 0 (v := ?_) (by simp) (by kernel_rfl) (by kernel_rfl) (by kernel_rfl) (fun _ _ _ h => h) (Or.inl ⟨by rfl, ?_⟩) hHeld ?_
 case refine_2 => (intro w hSw; (try dsimp only at hSw); (try (obtain ⟨s0, s1, s2, s3⟩ := hSw)); simp only [List.getElem_cons_zero]; go_simp <;> with_reducible rfl)
 simp only [List.getElem_cons_zero, Act.put, List.setIfInBounds_toArray, List.set_cons_zero, List.set_cons_succ]
 refine held_take 1 (v := ?_) (by simp) (by kernel_rfl) (by kernel_rfl) (by kernel_rfl) (fun _ _ _ h => h) (Or.inl ⟨by rfl, ?_⟩) hHeld ?_
 case refine_2 => (intro w hSw; (try dsimp only at hSw); (try (obtain ⟨s0, s1, s2, s3⟩ := hSw)); simp only [List.getElem_cons_zero, List.getElem_cons_succ]; go_simp <;> with_reducible rfl)
 simp only [List.getElem_cons_zero, List.getElem_cons_succ, Act.put, List.setIfInBounds_toArray, List.set_cons_zero, List.set_cons_succ]
 refine held_take 2 (v := ?_) (by simp) (by kernel_rfl) (by kernel_rfl) (by kernel_rfl) (fun _ _ _ h => h) (Or.inl ⟨by rfl, ?_⟩) hHeld ?_
 case refine_2 => (intro w hSw; (try dsimp only at hSw); (try (obtain ⟨s0, s1, s2, s3⟩ := hSw)); simp only [List.getElem_cons_zero, List.getElem_cons_succ]; go_simp <;> with_reducible rfl)
 simp only [List.getElem_cons_zero, List.getElem_cons_succ, Act.put, List.setIfInBounds_toArray, List.set_cons_zero, List.set_cons_succ]
 refine held_take 3 (v := ?_) (by simp) (by kernel_rfl) (by kernel_rfl) (by kernel_rfl) (fun _ _ _ h => h) (Or.inl ⟨by rfl, ?_⟩) hHeld ?_
 case refine_2 => (intro w hSw; (try dsimp only at hSw); (try (obtain ⟨s0, s1, s2, s3⟩ := hSw)); simp only [List.getElem_cons_zero, List.getElem_cons_succ]; go_simp <;> with_reducible rfl)
 simp only [List.getElem_cons_zero, List.getElem_cons_succ, Act.put, List.setIfInBounds_toArray, List.set_cons_zero, List.set_cons_succ]
 refine held_take 4 (v := ?_) (by simp) (by kernel_rfl) (by kernel_rfl) (by kernel_rfl) (fun _ _ _ h => h) (Or.inl ⟨by rfl, ?_⟩) hHeld ?_
 case refine_2 => (intro w hSw; (try dsimp only at hSw); (try (obtain ⟨s0, s1, s2, s3⟩ := hSw)); simp only [List.getElem_cons_zero, List.getElem_cons_succ]; go_simp <;> with_reducible rfl)
 simp only [List.getElem_cons_zero, List.getElem_cons_succ, Act.put, List.setIfInBounds_toArray, List.set_cons_zero, List.set_cons_succ]
 refine held_take 7 (v := ?_) (by simp) (by kernel_rfl) (by kernel_rfl) (by kernel_rfl) (fun _ _ _ h => h) (Or.inl ⟨by rfl, ?_⟩) hHeld ?_
 case refine_2 => (intro w hSw; (try dsimp only at hSw); (try (obtain ⟨s0, s1, s2, s3⟩ := hSw)); simp only [List.getElem_cons_zero, List.getElem_cons_succ]; go_simp <;> with_reducible rfl)
 simp only [List.getElem_cons_zero, List.getElem_cons_succ, Act.put, List.setIfInBounds_toArray, List.set_cons_zero, List.set_cons_succ]
 refine held_take 8 (v := ?_) (by simp) (by kernel_rfl) (by kernel_rfl) (by kernel_rfl) (fun _ _ _ h => h) (Or.inl ⟨by rfl, ?_⟩) hHeld ?_
 case refine_2 => (intro w hSw; (try dsimp only at hSw); (try (obtain ⟨s0, s1, s2, s3⟩ := hSw)); simp only [List.getElem_cons_zero, List.getElem_cons_succ]; go_simp <;> with_reducible rfl)
 simp only [List.getElem_cons_zero, List.getElem_cons_succ, Act.put, List.setIfInBounds_toArray, List.set_cons_zero, List.set_cons_succ]
 refine held_take 9 (v := ?_) (by simp) (by kernel_rfl) (by kernel_rfl) (by kernel_rfl) (fun _ _ _ h => h) (Or.inl ⟨by rfl, ?_⟩) hHeld ?_
 case refine_2 => (intro w hSw; (try dsimp only at hSw); (try (obtain ⟨s0, s1, s2, s3⟩ := hSw)); simp only [List.getElem_cons_zero, List.getElem_cons_succ]; go_simp <;> with_reducible rfl)
 simp only [List.getElem_cons_zero, List.getElem_cons_succ, Act.put, List.setIfInBounds_toArray, List.set_cons_zero, List.set_cons_succ]
 refine held_take 10 (v := ?_) (by simp) (by kernel_rfl) (by kernel_rfl) (by kernel_rfl) (fun _ _ _ h => h) (Or.inl ⟨by rfl, ?_⟩) hHeld ?_
 case refine_2 => (intro w hSw; (try dsimp only at hSw); (try (obtain ⟨s0, s1, s2, s3⟩ := hSw)); simp only [List.getElem_cons_zero, List.getElem_cons_succ]; go_simp <;> with_reducible rfl)
 simp only [List.getElem_cons_zero, List.getElem_cons_succ, Act.put, List.setIfInBounds_toArray, List.set_cons_zero, List.set_cons_succ]
 refine held_take 11 (v := ?_) (by simp) (by kernel_rfl) (by kernel_rfl) (by kernel_rfl) (fun _ _ _ h => h) (Or.inl ⟨by rfl, ?_⟩) hHeld ?_
 case refine_2 => (intro w hSw; (try dsimp only at hSw); (try (obtain ⟨s0, s1, s2, s3⟩ := hSw)); simp only [List.getElem_cons_zero, List.getElem_cons_succ]; go_simp <;> with_reducible rfl)
 simp only [List.getElem_cons_zero, List.getElem_cons_succ, Act.put, List.setIfInBounds_toArray, List.set_cons_zero, List.set_cons_succ]
 obtain ⟨w0, hw0⟩ : ∃ w0, w0 = wA.drew := ⟨_, rfl⟩
 rw [← hw0] at hHeld ⊢
 have HK0 : Hid (∀ q, W.heap.size ≤ q → q < wA.heap.size → w0.heap[q]? = wA.heap[q]?) := Lib.hid (by rw [hw0]; exact fun _ _ _ => rfl)
 have HL0 : Hid (Below wA.heap.size wA w0) := Lib.hid (by rw [hw0]; exact (Below.refl _ _).drew)
 have hz0 : wA.heap.size ≤ w0.heap.size := HL0.out.size
 clear hw0 k8 k9
 refine held_two 5 12 (by simp) (by simp) (by kernel_rfl) (fun K hK => ?_) (fun K hK => ?_)
 ·simp only [List.getElem_cons_zero, List.getElem_cons_succ]
  go_simp
  obtain ⟨w1, hw1⟩ : ∃ w1, w1 = w0.alloc (.cells #[.slice Ab b.length cb] 27) := ⟨_, rfl⟩
  rw [← hw1]
  have hbw1 : Below w0.heap.size w0 w1 := by rw [hw1]; exact (Below.refl _ w0).alloc (Nat.le_refl _) _
  have hz1 : w0.heap.size + 1 ≤ w1.heap.size := by rw [hw1]; simp
  have HRA := Lib.hid (show Rd w1 (w0.heap.size + 1) (some ⟨w0.heap.size, 0, none⟩) [.slice Ab b.length cb] by rw [hw1]; exact rd_lit w0 27 [.slice Ab b.length cb])
  have HK1 : Hid (∀ q, W.heap.size ≤ q → q < wA.heap.size → w1.heap[q]? = wA.heap[q]?) := Lib.hid fun q h1 h2 => (hbw1.block q (by omega)).trans (HK0.out q h1 h2)
  have HL1 := Lib.hid (HL0.out.trans (hbw1.mono (by omega)))
  have HB1 := Lib.hid hbw1
  clear hw1 hbw1
  refine hK.out _ _ (HKC.out w1 HK1.out) (fun hHeld => ?_)
  clear hK K
  try simp only [Act.put, List.setIfInBounds_toArray, List.set_cons_zero, List.set_cons_succ]
  refine held_two 6 12 (by simp) (by simp) (by kernel_rfl) (fun K hK => ?_) (fun K hK => ?_)
  ·simp only [List.getElem_cons_zero, List.getElem_cons_succ]
   go_simp
   have HKS1 := Lib.hid (HS0.out.fresh (HBW.out.trans (HL1.out.mono (Nat.le_of_lt hsA))))
   refine (HAP.out w1 _ _ HKS1.out (fun q h => h.2) (HL1.out.mono (by omega)) (HRA.out.more (by omega))).mono ?_
   rintro e w2 ⟨rfl, hT⟩
   have HT := Lib.hid hT
   have hz2 : w1.heap.size ≤ w2.heap.size := hT.2.1.size
   have HK2 : Hid (∀ q, W.heap.size ≤ q → q < wA.heap.size → w2.heap[q]? = wA.heap[q]?) := Lib.hid fun q h1 h2 => (hT.2.2 q (by omega) ⟨h1, by omega⟩).trans (HK1.out q h1 h2)
   clear hT
   go_wp2_with fail
   refine hK.out _ _ (HKC.out w2 HK2.out) (fun hHeld => ?_)
   clear hK K
   try simp only [Act.put, List.setIfInBounds_toArray, List.set_cons_zero, List.set_cons_succ]
   refine held_sole 12 (by simp) (by kernel_rfl) (fun K hK => ?_)
   simp only [List.getElem_cons_zero, List.getElem_cons_succ]
   go_simp
   obtain ⟨w3, hw3⟩ : ∃ w3, w3 = w2.alloc (.cells #[.slice Ab b.length cb] 27) := ⟨_, rfl⟩
   rw [← hw3]
   have hbw3 : Below w2.heap.size w2 w3 := by rw [hw3]; exact (Below.refl _ w2).alloc (Nat.le_refl _) _
   have hz3 : w2.heap.size + 1 ≤ w3.heap.size := by rw [hw3]; simp
   have HRB := Lib.hid (show Rd w3 (w2.heap.size + 1) (some ⟨w2.heap.size, 0, none⟩) [.slice Ab b.length cb] by rw [hw3]; exact rd_lit w2 27 [.slice Ab b.length cb])
   have HK3 : Hid (∀ q, W.heap.size ≤ q → q < wA.heap.size → w3.heap[q]? = wA.heap[q]?) := Lib.hid fun q h1 h2 => (hbw3.block q (by omega)).trans (HK2.out q h1 h2)
   have HB3 := Lib.hid hbw3
   clear hw3 hbw3
   refine hK.out _ _ (HKC.out w3 HK3.out) (fun hHeld => ?_)
   clear hK K
   try simp only [Act.put, List.setIfInBounds_toArray, List.set_cons_zero, List.set_cons_succ]
   refine held_sole 13 (by simp) (by kernel_rfl) (fun K hK => ?_)
   simp only [List.getElem_cons_zero, List.getElem_cons_succ]
   go_simp
   refine (HRP.out w3 _ _ _ (HT.out.1.below HB3.out) (fun q h => by omega) ((HL1.out.mono (by omega)).trans (HT.out.2.1.trans (HB3.out.mono (by have := HT.out.1.size; omega)))) (HRB.out.more (by omega))).mono ?_
   rintro e w4 ⟨rfl, hT⟩
   have HT4 := Lib.hid hT
   have hz4 : w3.heap.size ≤ w4.heap.size := hT.2.1.size
   have HK4 : Hid (∀ q, W.heap.size ≤ q → q < wA.heap.size → w4.heap[q]? = wA.heap[q]?) := Lib.hid fun q h1 h2 => (hT.2.2 q (by omega) ⟨h1, by omega⟩).trans (HK3.out q h1 h2)
   clear hT
   go_wp2_with fail
   refine hK.out _ _ (HKC.out w4 HK4.out) (fun hHeld => ?_)
   clear hK K
   try simp only [Act.put, List.setIfInBounds_toArray, List.set_cons_zero, List.set_cons_succ]
   refine held_take 14 (v := ?_) (by simp) (by kernel_rfl) (by kernel_rfl) (by kernel_rfl) (fun _ _ _ h => h) (Or.inl ⟨by rfl, ?_⟩) hHeld ?_
   case refine_2 => (intro w hSw; (try dsimp only at hSw); (try (obtain ⟨s0, s1, s2, s3⟩ := hSw)); simp only [List.getElem_cons_zero, List.getElem_cons_succ]; go_simp <;> with_reducible rfl)
   simp only [List.getElem_cons_zero, List.getElem_cons_succ, Act.put, List.setIfInBounds_toArray, List.set_cons_zero, List.set_cons_succ]
   refine held_take 15 (v := ?_) (by simp) (by kernel_rfl) (by kernel_rfl) (by kernel_rfl) (fun _ _ _ h => h) (Or.inl ⟨by rfl, ?_⟩) hHeld ?_
   case refine_2 => (intro w hSw; (try dsimp only at hSw); (try (obtain ⟨s0, s1, s2, s3⟩ := hSw)); simp only [List.getElem_cons_zero, List.getElem_cons_succ]; go_simp <;> with_reducible rfl)
   simp only [List.getElem_cons_zero, List.getElem_cons_succ, Act.put, List.setIfInBounds_toArray, List.set_cons_zero, List.set_cons_succ]
   refine wpAnyH_done (by kernel_rfl) ?_ _
   clear hHeld
   have HS5 := Lib.hid (KS.free HT4.out.1)
   have HP5 := Lib.hid (show PlayOk (k + 1) RR.2 by rw [HRR.out]; exact HP.out.append nm.data.toList hbl)
   have HB5 := Lib.hid ((HBA.out.trans (HL1.out.mono (by omega))).trans (HT.out.2.1.trans ((HB3.out.mono (by have := HT.out.1.size; omega)).trans HT4.out.2.1)))
   obtain ⟨B, rs2, c2, cB, hFB, hfB, hgB⟩ := ks_row HS5.out
   have HFB := Lib.hid hFB
   have HfB := Lib.hid hfB
   have HFI := Lib.hid (kp_files (HS5.out.below ((Below.refl _ _).drew)) HP5.out (by omega))
   clear hFB hfB 
   go_wp2_with fail
   refine wp_region_held_drew (by kernel_rfl) (S := fun W => W.cell? ⟨g2, 0, none⟩ = some (.slice B rs2.length c2) ∧ True ∧ True ∧ True) ⟨cB, trivial, trivial, trivial⟩ (fun hHeld => ?_)
   refine held_take 0 (v := ?_) (by simp) (by kernel_rfl) (by kernel_rfl) (by kernel_rfl) (fun _ _ _ h => h) (Or.inl ⟨by rfl, ?_⟩) hHeld ?_
   case refine_2 => (intro w hSw; (try dsimp only at hSw); (try (obtain ⟨s0, s1, s2, s3⟩ := hSw)); simp only [List.getElem_cons_zero]; go_simp <;> with_reducible rfl)
   simp only [List.getElem_cons_zero, Act.put, List.setIfInBounds_toArray, List.set_cons_zero, List.set_cons_succ]
   refine held_take 1 (v := ?_) (by simp) (by kernel_rfl) (by kernel_rfl) (by kernel_rfl) (fun _ _ _ h => h) (Or.inl ⟨by rfl, ?_⟩) hHeld ?_
   case refine_2 => (intro w hSw; (try dsimp only at hSw); (try (obtain ⟨s0, s1, s2, s3⟩ := hSw)); simp only [List.getElem_cons_zero, List.getElem_cons_succ]; go_simp <;> with_reducible rfl)
   simp only [List.getElem_cons_zero, List.getElem_cons_succ, Act.put, List.setIfInBounds_toArray, List.set_cons_zero, List.set_cons_succ]
   refine held_take 2 (v := ?_) (by simp) (by kernel_rfl) (by kernel_rfl) (by kernel_rfl) (fun _ _ _ h => h) (Or.inl ⟨by rfl, ?_⟩) hHeld ?_
   case refine_2 => (intro w hSw; (try dsimp only at hSw); (try (obtain ⟨s0, s1, s2, s3⟩ := hSw)); simp only [List.getElem_cons_zero, List.getElem_cons_succ]; go_simp <;> with_reducible rfl)
   simp only [List.getElem_cons_zero, List.getElem_cons_succ, Act.put, List.setIfInBounds_toArray, List.set_cons_zero, List.set_cons_succ]
   refine held_take 4 (v := ?_) (by simp) (by kernel_rfl) (by kernel_rfl) (by kernel_rfl) (fun _ _ _ h => h) (Or.inl ⟨by rfl, ?_⟩) hHeld ?_
   case refine_2 => (intro w hSw; (try dsimp only at hSw); (try (obtain ⟨s0, s1, s2, s3⟩ := hSw)); simp only [List.getElem_cons_zero, List.getElem_cons_succ]; go_simp <;> with_reducible rfl)
   simp only [List.getElem_cons_zero, List.getElem_cons_succ, Act.put, List.setIfInBounds_toArray, List.set_cons_zero, List.set_cons_succ]
   refine held_take 5 (v := ?_) (by simp) (by kernel_rfl) (by kernel_rfl) (by kernel_rfl) (fun _ _ _ h => h) (Or.inl ⟨by rfl, ?_⟩) hHeld ?_
   case refine_2 => (intro w hSw; (try dsimp only at hSw); (try (obtain ⟨s0, s1, s2, s3⟩ := hSw)); simp only [List.getElem_cons_zero, List.getElem_cons_succ]; go_simp <;> with_reducible rfl)
   simp only [List.getElem_cons_zero, List.getElem_cons_succ, Act.put, List.setIfInBounds_toArray, List.set_cons_zero, List.set_cons_succ]
   refine held_take 6 (v := ?_) (by simp) (by kernel_rfl) (by kernel_rfl) (by kernel_rfl) (fun _ _ _ h => h) (Or.inl ⟨by rfl, ?_⟩) hHeld ?_
   case refine_2 => (intro w hSw; (try dsimp only at hSw); (try (obtain ⟨s0, s1, s2, s3⟩ := hSw)); simp only [List.getElem_cons_zero, List.getElem_cons_succ]; go_simp <;> with_reducible rfl)
   simp only [List.getElem_cons_zero, List.getElem_cons_succ, Act.put, List.setIfInBounds_toArray, List.set_cons_zero, List.set_cons_succ]
   refine held_take 7 (v := ?_) (by simp) (by kernel_rfl) (by kernel_rfl) (by kernel_rfl) (fun _ _ _ h => h) (Or.inl ⟨by rfl, ?_⟩) hHeld ?_
   case refine_2 => (intro w hSw; (try dsimp only at hSw); (try (obtain ⟨s0, s1, s2, s3⟩ := hSw)); simp only [List.getElem_cons_zero, List.getElem_cons_succ]; go_simp <;> with_reducible rfl)
   simp only [List.getElem_cons_zero, List.getElem_cons_succ, Act.put, List.setIfInBounds_toArray, List.set_cons_zero, List.set_cons_succ]
   refine held_sole 3 (by simp) (by kernel_rfl) (fun K hK => ?_)
   simp only [List.getElem_cons_zero, List.getElem_cons_succ]
   go_simp
   refine HFI.out.mono ?_
   rintro e w6 ⟨A, rs, c, rfl, hFA, hfA, hb6⟩
   have HB6 := Lib.hid ((Below.refl _ _).drew.trans (show Below _ _ _ from hb6))
   have cB6 := (HB6.out.cell (p := ⟨g2, 0, none⟩) hgB).trans cB
   have HSM := Lib.hid (kr_same (W := w6) A B c c2 HP5.out (by omega) hFA (HFB.out.below HB6.out) hfA HfB.out)
   clear hFA hfA hb6 HFI
   go_wp2_with fail
   refine hK.out _ _ ⟨cB6, trivial, trivial, trivial⟩ (fun hHeld => ?_)
   clear hK K
   try simp only [Act.put, List.setIfInBounds_toArray, List.set_cons_zero, List.set_cons_succ]
   refine held_sole 8 (by simp) (by kernel_rfl) (fun K hK => ?_)
   simp only [List.getElem_cons_zero, List.getElem_cons_succ]
   go_simp
   refine HSM.out.mono ?_
   rintro e w7 ⟨rfl, hb7⟩
   have HB7 := Lib.hid (HB6.out.trans (hb7.mono HB6.out.size))
   have cB7 := (HB7.out.cell (p := ⟨g2, 0, none⟩) hgB).trans cB
   clear hb7 HSM
   go_wp2_with fail
   refine hK.out _ _ ⟨cB7, trivial, trivial, trivial⟩ (fun hHeld => ?_)
   clear hK K
   try simp only [Act.put, List.setIfInBounds_toArray, List.set_cons_zero, List.set_cons_succ]
   refine held_take 9 (v := ?_) (by simp) (by kernel_rfl) (by kernel_rfl) (by kernel_rfl) (fun _ _ _ h => h) (Or.inl ⟨by rfl, ?_⟩) hHeld ?_
   case refine_2 => (intro w hSw; (try dsimp only at hSw); (try (obtain ⟨s0, s1, s2, s3⟩ := hSw)); simp only [List.getElem_cons_zero, List.getElem_cons_succ]; go_simp <;> with_reducible rfl)
   simp only [List.getElem_cons_zero, List.getElem_cons_succ, Act.put, List.setIfInBounds_toArray, List.set_cons_zero, List.set_cons_succ]
   refine held_take 10 (v := ?_) (by simp) (by kernel_rfl) (by kernel_rfl) (by kernel_rfl) (fun _ _ _ h => h) (Or.inl ⟨by rfl, ?_⟩) hHeld ?_
   case refine_2 => (intro w hSw; (try dsimp only at hSw); (try (obtain ⟨s0, s1, s2, s3⟩ := hSw)); simp only [List.getElem_cons_zero, List.getElem_cons_succ]; go_simp <;> with_reducible rfl)
   simp only [List.getElem_cons_zero, List.getElem_cons_succ, Act.put, List.setIfInBounds_toArray, List.set_cons_zero, List.set_cons_succ]
   refine wpAnyH_done (by kernel_rfl) ?_ _
   clear hHeld cB cB6 cB7
   go_wp2_with fail
   go_ret
   exact ⟨rfl, _, HS5.out.below HB7.out, HP5.out, HB5.out.trans (HB7.out.mono HS5.out.size)⟩
  ·simp only [List.getElem_cons_zero, List.getElem_cons_succ]
   go_simp
   obtain ⟨w2, hw2⟩ : ∃ w2, w2 = w1.alloc (.cells #[.slice Ab b.length cb] 27) := ⟨_, rfl⟩
   rw [← hw2]
   have hbw2 : Below w1.heap.size w1 w2 := by rw [hw2]; exact (Below.refl _ w1).alloc (Nat.le_refl _) _
   have hz2 : w1.heap.size + 1 ≤ w2.heap.size := by rw [hw2]; simp
   have HRB := Lib.hid (show Rd w2 (w1.heap.size + 1) (some ⟨w1.heap.size, 0, none⟩) [.slice Ab b.length cb] by rw [hw2]; exact rd_lit w1 27 [.slice Ab b.length cb])
   have HK2 : Hid (∀ q, W.heap.size ≤ q → q < wA.heap.size → w2.heap[q]? = wA.heap[q]?) := Lib.hid fun q h1 h2 => (hbw2.block q (by omega)).trans (HK1.out q h1 h2)
   have HL2 := Lib.hid (HL1.out.trans (hbw2.mono (by omega)))
   have HB2 := Lib.hid hbw2
   clear hw2 hbw2
   refine hK.out _ _ (HKC.out w2 HK2.out) (fun hHeld => ?_)
   clear hK K
   try simp only [Act.put, List.setIfInBounds_toArray, List.set_cons_zero, List.set_cons_succ]
   have HRA2 := Lib.hid ((HRA.out.below (HB2.out.mono (by omega))).more (show w0.heap.size + 1 ≤ w2.heap.size by omega))
   refine held_sole 6 (by simp) (by kernel_rfl) (fun K hK => ?_)
   simp only [List.getElem_cons_zero, List.getElem_cons_succ]
   go_simp
   have HKS2 := Lib.hid (HS0.out.fresh (HBW.out.trans (HL2.out.mono (Nat.le_of_lt hsA))))
   refine (HAP.out w2 _ _ HKS2.out (fun q h => h.2) (HL2.out.mono (by omega)) (HRA2.out.more (by omega))).mono ?_
   rintro e w3 ⟨rfl, hT⟩
   have HT := Lib.hid hT
   have hz3 : w2.heap.size ≤ w3.heap.size := hT.2.1.size
   have HK3 : Hid (∀ q, W.heap.size ≤ q → q < wA.heap.size → w3.heap[q]? = wA.heap[q]?) := Lib.hid fun q h1 h2 => (hT.2.2 q (by omega) ⟨h1, by omega⟩).trans (HK2.out q h1 h2)
   clear hT
   go_wp2_with fail
   refine hK.out _ _ (HKC.out w3 HK3.out) (fun hHeld => ?_)
   clear hK K
   try simp only [Act.put, List.setIfInBounds_toArray, List.set_cons_zero, List.set_cons_succ]
   refine held_sole 13 (by simp) (by kernel_rfl) (fun K hK => ?_)
   simp only [List.getElem_cons_zero, List.getElem_cons_succ]
   go_simp
   refine (HRP.out w3 _ _ _ HT.out.1 (fun q h => by omega) ((HL2.out.mono (by omega)).trans HT.out.2.1) (rd_block HRB.out (fun ad e => by injection e with e; subst e; exact HT.out.2.2 _ (by show w1.heap.size < _; omega) ⟨by show W.heap.size ≤ w1.heap.size; omega, by show w1.heap.size < _; omega⟩) (by omega))).mono ?_
   rintro e w4 ⟨rfl, hT⟩
   have HT4 := Lib.hid hT
   have hz4 : w3.heap.size ≤ w4.heap.size := hT.2.1.size
   have HK4 : Hid (∀ q, W.heap.size ≤ q → q < wA.heap.size → w4.heap[q]? = wA.heap[q]?) := Lib.hid fun q h1 h2 => (hT.2.2 q (by omega) ⟨h1, by omega⟩).trans (HK3.out q h1 h2)
   clear hT
   go_wp2_with fail
   refine hK.out _ _ (HKC.out w4 HK4.out) (fun hHeld => ?_)
   clear hK K
   try simp only [Act.put, List.setIfInBounds_toArray, List.set_cons_zero, List.set_cons_succ]
   refine held_take 14 (v := ?_) (by simp) (by kernel_rfl) (by kernel_rfl) (by kernel_rfl) (fun _ _ _ h => h) (Or.inl ⟨by rfl, ?_⟩) hHeld ?_
   case refine_2 => (intro w hSw; (try dsimp only at hSw); (try (obtain ⟨s0, s1, s2, s3⟩ := hSw)); simp only [List.getElem_cons_zero, List.getElem_cons_succ]; go_simp <;> with_reducible rfl)
   simp only [List.getElem_cons_zero, List.getElem_cons_succ, Act.put, List.setIfInBounds_toArray, List.set_cons_zero, List.set_cons_succ]
   refine held_take 15 (v := ?_) (by simp) (by kernel_rfl) (by kernel_rfl) (by kernel_rfl) (fun _ _ _ h => h) (Or.inl ⟨by rfl, ?_⟩) hHeld ?_
   case refine_2 => (intro w hSw; (try dsimp only at hSw); (try (obtain ⟨s0, s1, s2, s3⟩ := hSw)); simp only [List.getElem_cons_zero, List.getElem_cons_succ]; go_simp <;> with_reducible rfl)
   simp only [List.getElem_cons_zero, List.getElem_cons_succ, Act.put, List.setIfInBounds_toArray, List.set_cons_zero, List.set_cons_succ]
   refine wpAnyH_done (by kernel_rfl) ?_ _
   clear hHeld
   have HS5 := Lib.hid (KS.free HT4.out.1)
   have HP5 := Lib.hid (show PlayOk (k + 1) RR.2 by rw [HRR.out]; exact HP.out.append nm.data.toList hbl)
   have HB5 := Lib.hid ((HBA.out.trans (HL2.out.mono (by omega))).trans (HT.out.2.1.trans HT4.out.2.1))
   obtain ⟨B, rs2, c2, cB, hFB, hfB, hgB⟩ := ks_row HS5.out
   have HFB := Lib.hid hFB
   have HfB := Lib.hid hfB
   have HFI := Lib.hid (kp_files (HS5.out.below ((Below.refl _ _).drew)) HP5.out (by omega))
   clear hFB hfB 
   go_wp2_with fail
   refine wp_region_held_drew (by kernel_rfl) (S := fun W => W.cell? ⟨g2, 0, none⟩ = some (.slice B rs2.length c2) ∧ True ∧ True ∧ True) ⟨cB, trivial, trivial, trivial⟩ (fun hHeld => ?_)
   refine held_take 0 (v := ?_) (by simp) (by kernel_rfl) (by kernel_rfl) (by kernel_rfl) (fun _ _ _ h => h) (Or.inl ⟨by rfl, ?_⟩) hHeld ?_
   case refine_2 => (intro w hSw; (try dsimp only at hSw); (try (obtain ⟨s0, s1, s2, s3⟩ := hSw)); simp only [List.getElem_cons_zero]; go_simp <;> with_reducible rfl)
   simp only [List.getElem_cons_zero, Act.put, List.setIfInBounds_toArray, List.set_cons_zero, List.set_cons_succ]
   refine held_take 1 (v := ?_) (by simp) (by kernel_rfl) (by kernel_rfl) (by kernel_rfl) (fun _ _ _ h => h) (Or.inl ⟨by rfl, ?_⟩) hHeld ?_
   case refine_2 => (intro w hSw; (try dsimp only at hSw); (try (obtain ⟨s0, s1, s2, s3⟩ := hSw)); simp only [List.getElem_cons_zero, List.getElem_cons_succ]; go_simp <;> with_reducible rfl)
   simp only [List.getElem_cons_zero, List.getElem_cons_succ, Act.put, List.setIfInBounds_toArray, List.set_cons_zero, List.set_cons_succ]
   refine held_take 2 (v := ?_) (by simp) (by kernel_rfl) (by kernel_rfl) (by kernel_rfl) (fun _ _ _ h => h) (Or.inl ⟨by rfl, ?_⟩) hHeld ?_
   case refine_2 => (intro w hSw; (try dsimp only at hSw); (try (obtain ⟨s0, s1, s2, s3⟩ := hSw)); simp only [List.getElem_cons_zero, List.getElem_cons_succ]; go_simp <;> with_reducible rfl)
   simp only [List.getElem_cons_zero, List.getElem_cons_succ, Act.put, List.setIfInBounds_toArray, List.set_cons_zero, List.set_cons_succ]
   refine held_take 4 (v := ?_) (by simp) (by kernel_rfl) (by kernel_rfl) (by kernel_rfl) (fun _ _ _ h => h) (Or.inl ⟨by rfl, ?_⟩) hHeld ?_
   case refine_2 => (intro w hSw; (try dsimp only at hSw); (try (obtain ⟨s0, s1, s2, s3⟩ := hSw)); simp only [List.getElem_cons_zero, List.getElem_cons_succ]; go_simp <;> with_reducible rfl)
   simp only [List.getElem_cons_zero, List.getElem_cons_succ, Act.put, List.setIfInBounds_toArray, List.set_cons_zero, List.set_cons_succ]
   refine held_take 5 (v := ?_) (by simp) (by kernel_rfl) (by kernel_rfl) (by kernel_rfl) (fun _ _ _ h => h) (Or.inl ⟨by rfl, ?_⟩) hHeld ?_
   case refine_2 => (intro w hSw; (try dsimp only at hSw); (try (obtain ⟨s0, s1, s2, s3⟩ := hSw)); simp only [List.getElem_cons_zero, List.getElem_cons_succ]; go_simp <;> with_reducible rfl)
   simp only [List.getElem_cons_zero, List.getElem_cons_succ, Act.put, List.setIfInBounds_toArray, List.set_cons_zero, List.set_cons_succ]
   refine held_take 6 (v := ?_) (by simp) (by kernel_rfl) (by kernel_rfl) (by kernel_rfl) (fun _ _ _ h => h) (Or.inl ⟨by rfl, ?_⟩) hHeld ?_
   case refine_2 => (intro w hSw; (try dsimp only at hSw); (try (obtain ⟨s0, s1, s2, s3⟩ := hSw)); simp only [List.getElem_cons_zero, List.getElem_cons_succ]; go_simp <;> with_reducible rfl)
   simp only [List.getElem_cons_zero, List.getElem_cons_succ, Act.put, List.setIfInBounds_toArray, List.set_cons_zero, List.set_cons_succ]
   refine held_take 7 (v := ?_) (by simp) (by kernel_rfl) (by kernel_rfl) (by kernel_rfl) (fun _ _ _ h => h) (Or.inl ⟨by rfl, ?_⟩) hHeld ?_
   case refine_2 => (intro w hSw; (try dsimp only at hSw); (try (obtain ⟨s0, s1, s2, s3⟩ := hSw)); simp only [List.getElem_cons_zero, List.getElem_cons_succ]; go_simp <;> with_reducible rfl)
   simp only [List.getElem_cons_zero, List.getElem_cons_succ, Act.put, List.setIfInBounds_toArray, List.set_cons_zero, List.set_cons_succ]
   refine held_sole 3 (by simp) (by kernel_rfl) (fun K hK => ?_)
   simp only [List.getElem_cons_zero, List.getElem_cons_succ]
   go_simp
   refine HFI.out.mono ?_
   rintro e w6 ⟨A, rs, c, rfl, hFA, hfA, hb6⟩
   have HB6 := Lib.hid ((Below.refl _ _).drew.trans (show Below _ _ _ from hb6))
   have cB6 := (HB6.out.cell (p := ⟨g2, 0, none⟩) hgB).trans cB
   have HSM := Lib.hid (kr_same (W := w6) A B c c2 HP5.out (by omega) hFA (HFB.out.below HB6.out) hfA HfB.out)
   clear hFA hfA hb6 HFI
   go_wp2_with fail
   refine hK.out _ _ ⟨cB6, trivial, trivial, trivial⟩ (fun hHeld => ?_)
   clear hK K
   try simp only [Act.put, List.setIfInBounds_toArray, List.set_cons_zero, List.set_cons_succ]
   refine held_sole 8 (by simp) (by kernel_rfl) (fun K hK => ?_)
   simp only [List.getElem_cons_zero, List.getElem_cons_succ]
   go_simp
   refine HSM.out.mono ?_
   rintro e w7 ⟨rfl, hb7⟩
   have HB7 := Lib.hid (HB6.out.trans (hb7.mono HB6.out.size))
   have cB7 := (HB7.out.cell (p := ⟨g2, 0, none⟩) hgB).trans cB
   clear hb7 HSM
   go_wp2_with fail
   refine hK.out _ _ ⟨cB7, trivial, trivial, trivial⟩ (fun hHeld => ?_)
   clear hK K
   try simp only [Act.put, List.setIfInBounds_toArray, List.set_cons_zero, List.set_cons_succ]
   refine held_take 9 (v := ?_) (by simp) (by kernel_rfl) (by kernel_rfl) (by kernel_rfl) (fun _ _ _ h => h) (Or.inl ⟨by rfl, ?_⟩) hHeld ?_
   case refine_2 => (intro w hSw; (try dsimp only at hSw); (try (obtain ⟨s0, s1, s2, s3⟩ := hSw)); simp only [List.getElem_cons_zero, List.getElem_cons_succ]; go_simp <;> with_reducible rfl)
   simp only [List.getElem_cons_zero, List.getElem_cons_succ, Act.put, List.setIfInBounds_toArray, List.set_cons_zero, List.set_cons_succ]
   refine held_take 10 (v := ?_) (by simp) (by kernel_rfl) (by kernel_rfl) (by kernel_rfl) (fun _ _ _ h => h) (Or.inl ⟨by rfl, ?_⟩) hHeld ?_
   case refine_2 => (intro w hSw; (try dsimp only at hSw); (try (obtain ⟨s0, s1, s2, s3⟩ := hSw)); simp only [List.getElem_cons_zero, List.getElem_cons_succ]; go_simp <;> with_reducible rfl)
   simp only [List.getElem_cons_zero, List.getElem_cons_succ, Act.put, List.setIfInBounds_toArray, List.set_cons_zero, List.set_cons_succ]
   refine wpAnyH_done (by kernel_rfl) ?_ _
   clear hHeld cB cB6 cB7
   go_wp2_with fail
   go_ret
   exact ⟨rfl, _, HS5.out.below HB7.out, HP5.out, HB5.out.trans (HB7.out.mono HS5.out.size)⟩
 ·simp only [List.getElem_cons_zero, List.getElem_cons_succ]
  go_simp
  obtain ⟨w1, hw1⟩ : ∃ w1, w1 = w0.alloc (.cells #[.slice Ab b.length cb] 27) := ⟨_, rfl⟩
  rw [← hw1]
  have hbw1 : Below w0.heap.size w0 w1 := by rw [hw1]; exact (Below.refl _ w0).alloc (Nat.le_refl _) _
  have hz1 : w0.heap.size + 1 ≤ w1.heap.size := by rw [hw1]; simp
  have HRB := Lib.hid (show Rd w1 (w0.heap.size + 1) (some ⟨w0.heap.size, 0, none⟩) [.slice Ab b.length cb] by rw [hw1]; exact rd_lit w0 27 [.slice Ab b.length cb])
  have HK1 : Hid (∀ q, W.heap.size ≤ q → q < wA.heap.size → w1.heap[q]? = wA.heap[q]?) := Lib.hid fun q h1 h2 => (hbw1.block q (by omega)).trans (HK0.out q h1 h2)
  have HL1 := Lib.hid (HL0.out.trans (hbw1.mono (by omega)))
  have HB1 := Lib.hid hbw1
  clear hw1 hbw1
  refine hK.out _ _ (HKC.out w1 HK1.out) (fun hHeld => ?_)
  clear hK K
  try simp only [Act.put, List.setIfInBounds_toArray, List.set_cons_zero, List.set_cons_succ]
  refine held_sole 5 (by simp) (by kernel_rfl) (fun K hK => ?_)
  simp only [List.getElem_cons_zero, List.getElem_cons_succ]
  go_simp
  obtain ⟨w2, hw2⟩ : ∃ w2, w2 = w1.alloc (.cells #[.slice Ab b.length cb] 27) := ⟨_, rfl⟩
  rw [← hw2]
  have hbw2 : Below w1.heap.size w1 w2 := by rw [hw2]; exact (Below.refl _ w1).alloc (Nat.le_refl _) _
  have hz2 : w1.heap.size + 1 ≤ w2.heap.size := by rw [hw2]; simp
  have HRA := Lib.hid (show Rd w2 (w1.heap.size + 1) (some ⟨w1.heap.size, 0, none⟩) [.slice Ab b.length cb] by rw [hw2]; exact rd_lit w1 27 [.slice Ab b.length cb])
  have HK2 : Hid (∀ q, W.heap.size ≤ q → q < wA.heap.size → w2.heap[q]? = wA.heap[q]?) := Lib.hid fun q h1 h2 => (hbw2.block q (by omega)).trans (HK1.out q h1 h2)
  have HL2 := Lib.hid (HL1.out.trans (hbw2.mono (by omega)))
  have HB2 := Lib.hid hbw2
  clear hw2 hbw2
  refine hK.out _ _ (HKC.out w2 HK2.out) (fun hHeld => ?_)
  clear hK K
  try simp only [Act.put, List.setIfInBounds_toArray, List.set_cons_zero, List.set_cons_succ]
  refine held_sole 6 (by simp) (by kernel_rfl) (fun K hK => ?_)
  simp only [List.getElem_cons_zero, List.getElem_cons_succ]
  go_simp
  have HKS2 := Lib.hid (HS0.out.fresh (HBW.out.trans (HL2.out.mono (Nat.le_of_lt hsA))))
  refine (HAP.out w2 _ _ HKS2.out (fun q h => h.2) (HL2.out.mono (by omega)) (HRA.out.more (by omega))).mono ?_
  rintro e w3 ⟨rfl, hT⟩
  have HT := Lib.hid hT
  have hz3 : w2.heap.size ≤ w3.heap.size := hT.2.1.size
  have HK3 : Hid (∀ q, W.heap.size ≤ q → q < wA.heap.size → w3.heap[q]? = wA.heap[q]?) := Lib.hid fun q h1 h2 => (hT.2.2 q (by omega) ⟨h1, by omega⟩).trans (HK2.out q h1 h2)
  clear hT
  go_wp2_with fail
  refine hK.out _ _ (HKC.out w3 HK3.out) (fun hHeld => ?_)
  clear hK K
  try simp only [Act.put, List.setIfInBounds_toArray, List.set_cons_zero, List.set_cons_succ]
  refine held_sole 13 (by simp) (by kernel_rfl) (fun K hK => ?_)
  simp only [List.getElem_cons_zero, List.getElem_cons_succ]
  go_simp
  refine (HRP.out w3 _ _ _ HT.out.1 (fun q h => by omega) ((HL2.out.mono (by omega)).trans HT.out.2.1) (rd_block HRB.out (fun ad e => by injection e with e; subst e; exact (HT.out.2.2 _ (by show w0.heap.size < _; omega) ⟨by show W.heap.size ≤ w0.heap.size; omega, by show w0.heap.size < _; omega⟩).trans (HB2.out.block _ (by show w0.heap.size < _; omega))) (by omega))).mono ?_
  rintro e w4 ⟨rfl, hT⟩
  have HT4 := Lib.hid hT
  have hz4 : w3.heap.size ≤ w4.heap.size := hT.2.1.size
  have HK4 : Hid (∀ q, W.heap.size ≤ q → q < wA.heap.size → w4.heap[q]? = wA.heap[q]?) := Lib.hid fun q h1 h2 => (hT.2.2 q (by omega) ⟨h1, by omega⟩).trans (HK3.out q h1 h2)
  clear hT
  go_wp2_with fail
  refine hK.out _ _ (HKC.out w4 HK4.out) (fun hHeld => ?_)
  clear hK K
  try simp only [Act.put, List.setIfInBounds_toArray, List.set_cons_zero, List.set_cons_succ]
  refine held_take 14 (v := ?_) (by simp) (by kernel_rfl) (by kernel_rfl) (by kernel_rfl) (fun _ _ _ h => h) (Or.inl ⟨by rfl, ?_⟩) hHeld ?_
  case refine_2 => (intro w hSw; (try dsimp only at hSw); (try (obtain ⟨s0, s1, s2, s3⟩ := hSw)); simp only [List.getElem_cons_zero, List.getElem_cons_succ]; go_simp <;> with_reducible rfl)
  simp only [List.getElem_cons_zero, List.getElem_cons_succ, Act.put, List.setIfInBounds_toArray, List.set_cons_zero, List.set_cons_succ]
  refine held_take 15 (v := ?_) (by simp) (by kernel_rfl) (by kernel_rfl) (by kernel_rfl) (fun _ _ _ h => h) (Or.inl ⟨by rfl, ?_⟩) hHeld ?_
  case refine_2 => (intro w hSw; (try dsimp only at hSw); (try (obtain ⟨s0, s1, s2, s3⟩ := hSw)); simp only [List.getElem_cons_zero, List.getElem_cons_succ]; go_simp <;> with_reducible rfl)
  simp only [List.getElem_cons_zero, List.getElem_cons_succ, Act.put, List.setIfInBounds_toArray, List.set_cons_zero, List.set_cons_succ]
  refine wpAnyH_done (by kernel_rfl) ?_ _
  clear hHeld
  have HS5 := Lib.hid (KS.free HT4.out.1)
  have HP5 := Lib.hid (show PlayOk (k + 1) RR.2 by rw [HRR.out]; exact HP.out.append nm.data.toList hbl)
  have HB5 := Lib.hid ((HBA.out.trans (HL2.out.mono (by omega))).trans (HT.out.2.1.trans HT4.out.2.1))
  obtain ⟨B, rs2, c2, cB, hFB, hfB, hgB⟩ := ks_row HS5.out
  have HFB := Lib.hid hFB
  have HfB := Lib.hid hfB
  have HFI := Lib.hid (kp_files (HS5.out.below ((Below.refl _ _).drew)) HP5.out (by omega))
  clear hFB hfB 
  go_wp2_with fail
  refine wp_region_held_drew (by kernel_rfl) (S := fun W => W.cell? ⟨g2, 0, none⟩ = some (.slice B rs2.length c2) ∧ True ∧ True ∧ True) ⟨cB, trivial, trivial, trivial⟩ (fun hHeld => ?_)
  refine held_take 0 (v := ?_) (by simp) (by kernel_rfl) (by kernel_rfl) (by kernel_rfl) (fun _ _ _ h => h) (Or.inl ⟨by rfl, ?_⟩) hHeld ?_
  case refine_2 => (intro w hSw; (try dsimp only at hSw); (try (obtain ⟨s0, s1, s2, s3⟩ := hSw)); simp only [List.getElem_cons_zero]; go_simp <;> with_reducible rfl)
  simp only [List.getElem_cons_zero, Act.put, List.setIfInBounds_toArray, List.set_cons_zero, List.set_cons_succ]
  refine held_take 1 (v := ?_) (by simp) (by kernel_rfl) (by kernel_rfl) (by kernel_rfl) (fun _ _ _ h => h) (Or.inl ⟨by rfl, ?_⟩) hHeld ?_
  case refine_2 => (intro w hSw; (try dsimp only at hSw); (try (obtain ⟨s0, s1, s2, s3⟩ := hSw)); simp only [List.getElem_cons_zero, List.getElem_cons_succ]; go_simp <;> with_reducible rfl)
  simp only [List.getElem_cons_zero, List.getElem_cons_succ, Act.put, List.setIfInBounds_toArray, List.set_cons_zero, List.set_cons_succ]
  refine held_take 2 (v := ?_) (by simp) (by kernel_rfl) (by kernel_rfl) (by kernel_rfl) (fun _ _ _ h => h) (Or.inl ⟨by rfl, ?_⟩) hHeld ?_
  case refine_2 => (intro w hSw; (try dsimp only at hSw); (try (obtain ⟨s0, s1, s2, s3⟩ := hSw)); simp only [List.getElem_cons_zero, List.getElem_cons_succ]; go_simp <;> with_reducible rfl)
  simp only [List.getElem_cons_zero, List.getElem_cons_succ, Act.put, List.setIfInBounds_toArray, List.set_cons_zero, List.set_cons_succ]
  refine held_take 4 (v := ?_) (by simp) (by kernel_rfl) (by kernel_rfl) (by kernel_rfl) (fun _ _ _ h => h) (Or.inl ⟨by rfl, ?_⟩) hHeld ?_
  case refine_2 => (intro w hSw; (try dsimp only at hSw); (try (obtain ⟨s0, s1, s2, s3⟩ := hSw)); simp only [List.getElem_cons_zero, List.getElem_cons_succ]; go_simp <;> with_reducible rfl)
  simp only [List.getElem_cons_zero, List.getElem_cons_succ, Act.put, List.setIfInBounds_toArray, List.set_cons_zero, List.set_cons_succ]
  refine held_take 5 (v := ?_) (by simp) (by kernel_rfl) (by kernel_rfl) (by kernel_rfl) (fun _ _ _ h => h) (Or.inl ⟨by rfl, ?_⟩) hHeld ?_
  case refine_2 => (intro w hSw; (try dsimp only at hSw); (try (obtain ⟨s0, s1, s2, s3⟩ := hSw)); simp only [List.getElem_cons_zero, List.getElem_cons_succ]; go_simp <;> with_reducible rfl)
  simp only [List.getElem_cons_zero, List.getElem_cons_succ, Act.put, List.setIfInBounds_toArray, List.set_cons_zero, List.set_cons_succ]
  refine held_take 6 (v := ?_) (by simp) (by kernel_rfl) (by kernel_rfl) (by kernel_rfl) (fun _ _ _ h => h) (Or.inl ⟨by rfl, ?_⟩) hHeld ?_
  case refine_2 => (intro w hSw; (try dsimp only at hSw); (try (obtain ⟨s0, s1, s2, s3⟩ := hSw)); simp only [List.getElem_cons_zero, List.getElem_cons_succ]; go_simp <;> with_reducible rfl)
  simp only [List.getElem_cons_zero, List.getElem_cons_succ, Act.put, List.setIfInBounds_toArray, List.set_cons_zero, List.set_cons_succ]
  refine held_take 7 (v := ?_) (by simp) (by kernel_rfl) (by kernel_rfl) (by kernel_rfl) (fun _ _ _ h => h) (Or.inl ⟨by rfl, ?_⟩) hHeld ?_
  case refine_2 => (intro w hSw; (try dsimp only at hSw); (try (obtain ⟨s0, s1, s2, s3⟩ := hSw)); simp only [List.getElem_cons_zero, List.getElem_cons_succ]; go_simp <;> with_reducible rfl)
  simp only [List.getElem_cons_zero, List.getElem_cons_succ, Act.put, List.setIfInBounds_toArray, List.set_cons_zero, List.set_cons_succ]
  refine held_sole 3 (by simp) (by kernel_rfl) (fun K hK => ?_)
  simp only [List.getElem_cons_zero, List.getElem_cons_succ]
  go_simp
  refine HFI.out.mono ?_
  rintro e w6 ⟨A, rs, c, rfl, hFA, hfA, hb6⟩
  have HB6 := Lib.hid ((Below.refl _ _).drew.trans (show Below _ _ _ from hb6))
  have cB6 := (HB6.out.cell (p := ⟨g2, 0, none⟩) hgB).trans cB
  have HSM := Lib.hid (kr_same (W := w6) A B c c2 HP5.out (by omega) hFA (HFB.out.below HB6.out) hfA HfB.out)
  clear hFA hfA hb6 HFI
  go_wp2_with fail
  refine hK.out _ _ ⟨cB6, trivial, trivial, trivial⟩ (fun hHeld => ?_)
  clear hK K
  try simp only [Act.put, List.setIfInBounds_toArray, List.set_cons_zero, List.set_cons_succ]
  refine held_sole 8 (by simp) (by kernel_rfl) (fun K hK => ?_)
  simp only [List.getElem_cons_zero, List.getElem_cons_succ]
  go_simp
  refine HSM.out.mono ?_
  rintro e w7 ⟨rfl, hb7⟩
  have HB7 := Lib.hid (HB6.out.trans (hb7.mono HB6.out.size))
  have cB7 := (HB7.out.cell (p := ⟨g2, 0, none⟩) hgB).trans cB
  clear hb7 HSM
  go_wp2_with fail
  refine hK.out _ _ ⟨cB7, trivial, trivial, trivial⟩ (fun hHeld => ?_)
  clear hK K
  try simp only [Act.put, List.setIfInBounds_toArray, List.set_cons_zero, List.set_cons_succ]
  refine held_take 9 (v := ?_) (by simp) (by kernel_rfl) (by kernel_rfl) (by kernel_rfl) (fun _ _ _ h => h) (Or.inl ⟨by rfl, ?_⟩) hHeld ?_
  case refine_2 => (intro w hSw; (try dsimp only at hSw); (try (obtain ⟨s0, s1, s2, s3⟩ := hSw)); simp only [List.getElem_cons_zero, List.getElem_cons_succ]; go_simp <;> with_reducible rfl)
  simp only [List.getElem_cons_zero, List.getElem_cons_succ, Act.put, List.setIfInBounds_toArray, List.set_cons_zero, List.set_cons_succ]
  refine held_take 10 (v := ?_) (by simp) (by kernel_rfl) (by kernel_rfl) (by kernel_rfl) (fun _ _ _ h => h) (Or.inl ⟨by rfl, ?_⟩) hHeld ?_
  case refine_2 => (intro w hSw; (try dsimp only at hSw); (try (obtain ⟨s0, s1, s2, s3⟩ := hSw)); simp only [List.getElem_cons_zero, List.getElem_cons_succ]; go_simp <;> with_reducible rfl)
  simp only [List.getElem_cons_zero, List.getElem_cons_succ, Act.put, List.setIfInBounds_toArray, List.set_cons_zero, List.set_cons_succ]
  refine wpAnyH_done (by kernel_rfl) ?_ _
  clear hHeld cB cB6 cB7
  go_wp2_with fail
  go_ret
  exact ⟨rfl, _, HS5.out.below HB7.out, HP5.out, HB5.out.trans (HB7.out.mono HS5.out.size)⟩
end Go.Proofs.YteehkcpokgeipaaGreatDoor
