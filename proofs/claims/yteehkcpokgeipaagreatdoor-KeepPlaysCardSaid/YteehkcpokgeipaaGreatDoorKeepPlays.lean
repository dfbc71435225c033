/- pavanelaw23.KeepPlays answers true. Condition: the acts can be read. -/
import Derived.Test.YteehkcpokgeipaaGreatDoorKeepActG
import Derived.Test.YteehkcpokgeipaaGreatDoorKeepActA
import Derived.Test.YteehkcpokgeipaaGreatDoorKeepRPieces
import Derived.Test.YteehkcpokgeipaaGreatDoorOpenP
set_option linter.unusedVariables false
set_option linter.unusedSimpArgs false
namespace Go.Proofs.YteehkcpokgeipaaGreatDoor
open Go.RowKit Go.Maps Go.Sort Oct
set_option maxHeartbeats 8000000 in
set_option maxRecDepth 100000 in
theorem kactx_any {W : World} {lo g m g2 k : Nat} {d : DkD} (a : ActD) (hS : KS W lo g m g2 d d (fun _ => False)) (hP : PlayOk k d) (hk : k < 60) (hA : a.Ok W lo) (hF : ∀ W', Below lo W W' → Facts W') (ho : a.o ≠ 0 ∧ a.o ≠ 1 ∧ a.o ≠ 2 ∧ a.o ≠ 3 ∧ a.o ≠ 4 ∧ a.o ≠ 5 ∧ a.o ≠ 6) (hdl : a.s.l.length ≤ 65536) (hbl : a.b.length ≤ 65536) :
  Calls Tryz.prog 10 #[.pointer (some ⟨g, 0, none⟩), .pointer (some ⟨g2, 0, none⟩), .agg a.cs.toArray] W fun e w' => e = .returned (.bool true) ∧ ActTo W lo g m g2 k w' := by
 have hlo := hS.size
 unfold ActD.cs
 obtain ⟨o, n, mm, ⟨i, t, Av, z, cv, Ad, l, cd⟩, Ak, kz, ck, nm, Ab, b, cb⟩ := a
 simp only at ho hdl hbl hA ⊢
 have e0 : ∀ c : Int, o ≠ c → (o == c) = false := fun c h => by simpa using h
 obtain ⟨h0, h1, h2, h3, h4, h5, h6⟩ := ho
 replace h0 := e0 _ h0
 replace h1 := e0 _ h1
 replace h2 := e0 _ h2
 replace h3 := e0 _ h3
 replace h4 := e0 _ h4
 replace h5 := e0 _ h5
 replace h6 := e0 _ h6
 clear e0
 obtain ⟨hs, hz8, hn, hm, hkd, hkb, hkl, hnl, hb⟩ := hA
 obtain ⟨hsv, hsd, hsz, hszl, hsdl, hsi⟩ := hs
 simp only at hz8 hn hm hkd hkb hkl hnl hb hsv hsd hsz hszl hsdl hsi
 obtain ⟨wA, hwA⟩ : ∃ wA, wA = W.alloc (.cells #[.int .i64 o, .int .i64 n, .int .i64 mm, .int .i64 i, .int .i64 t, .slice Av z.length cv, .slice Ad l.length cd, .slice Ak kz.length ck, .string nm, .slice Ab b.length cb] 39) := ⟨_, rfl⟩
 have hbA : Below W.heap.size W wA := by rw [hwA]; exact (Below.refl _ W).alloc (Nat.le_refl _) _
 have hKA : Blk wA W.heap.size 39 #[.int .i64 o, .int .i64 n, .int .i64 mm, .int .i64 i, .int .i64 t, .slice Av z.length cv, .slice Ad l.length cd, .slice Ak kz.length ck, .string nm, .slice Ab b.length cb] := by rw [hwA]; exact Blk.new W 39 _
 have hsA : W.heap.size < wA.heap.size := hKA.lt
 have HSA := Lib.hid (hS.fresh hbA)
 have HBA := Lib.hid (hbA.mono hlo)
 have HBW := Lib.hid hbA
 have HKA := Lib.hid hKA
 have HWA := Lib.hid hwA
 have HP := Lib.hid hP
 have HF := Lib.hid hF
 have HSV := Lib.hid hsv
 have HSD := Lib.hid hsd
 have HSZ := Lib.hid hsz
 have HKD := Lib.hid hkd
 have HKB := Lib.hid hkb
 have HRB := Lib.hid hb
 have HS0 := Lib.hid hS
 have HSI := Lib.hid hsi
 have HN := Lib.hid hn
 have HM := Lib.hid hm
 obtain ⟨k0, k1, k2, k3, k4, k5, k6, k7, k8, k9⟩ := blk10_cells hKA
 clear hwA hbA hP hF hsv hsd hsz hkd hkb hb hS hsi hn hm
 go_enter Tryz.func10, Tryz.ntmps10
 go_upto_region 27 with (fail)
 rw [← HWA.out]
 have HS5 := Lib.hid (KS.free HSA.out)
 have HP5 := Lib.hid (HP.out.mono (k' := k + 1) (by omega))
 have HB5 := Lib.hid HBA.out
 obtain ⟨B, rs2, c2, cB, hFB, hfB, hgB⟩ := ks_row HS5.out
 have HFB := Lib.hid hFB
 have HfB := Lib.hid hfB
 have HFI := Lib.hid (kp_files (HS5.out.below ((Below.refl _ _).drew)) HP5.out (by omega))
 clear hFB hfB k0 k1 k2 k3 k4 k5 k6 k7 k8 k9 h0 h1 h2 h3 h4 h5 h6
 go_wp2_with fail
 refine wp_region_held_drew (by kernel_rfl) (S := fun W => W.cell? ⟨g2, 0, none⟩ = some (.slice B rs2.length c2) ∧ True ∧ True ∧ True) ⟨cB, trivial, trivial, trivial⟩ (fun hHeld => ?_)
 refine held_take 0 (v := ?_) (by simp) (by kernel_rfl) (by kernel_rfl) (by kernel_rfl) (fun _ _ _ h => h) (Or.inl ⟨by rfl, ?_⟩) hHeld ?_
 case refine_2 => (intro w hSw; (try dsimp only at hSw); (try (obtain ⟨s0, s1, s2, s3⟩ := hSw)); simp only [List.getElem_cons_zero]; go_simp <;> with_reducible rfl)
 simp only [List.getElem_cons_zero, Act.put, List.setIfInBounds_toArray, List.set_cons_zero, List.set_cons_succ]
 refine held_take 1 (v := ?_) (by simp) (by kernel_rfl) (by kernel_rfl) (by kernel_rfl) (fun _ _ _ h => h) (Or.inl ⟨by rfl, ?_⟩) hHeld ?_
 case refine_2 => (intro w hSw; (try dsimp only at hSw); (try (obtain ⟨s0, s1, s2, s3⟩ := hSw)); simp only [List.getElem_cons_zero, List.getElem_cons_succ]; go_simp <;> with_reducible rfl)
 simp only [List.getElem_cons_zero, List.getElem_cons_succ, Act.put, List.setIfInBounds_toArray, List.set_cons_zero, List.set_cons_succ]
 refine held_take 2 (v := ?_) (by simp) (by kernel_rfl) (by kernel_rfl) (by kernel_rfl) (fun _ _ _ h => h) (Or.inl ⟨by rfl, ?_⟩) hHeld ?_
 case refine_2 => (intro w hSw; (try dsimp only at hSw); (try (obtain ⟨s0, s1, s2, s3⟩ := hSw)); simp only [List.getElem_cons_zero, List.getElem_cons_succ]; go_simp <;> with_reducible rfl)
 simp only [List.getElem_cons_zero, List.getElem_cons_succ, Act.put, List.setIfInBounds_toArray, List.set_cons_zero, List.set_cons_succ]
 refine held_take 4 (v := ?_) (by simp) (by kernel_rfl) (by kernel_rfl) (by kernel_rfl) (fun _ _ _ h => h) (Or.inl ⟨by rfl, ?_⟩) hHeld ?_
 case refine_2 => (intro w hSw; (try dsimp only at hSw); (try (obtain ⟨s0, s1, s2, s3⟩ := hSw)); simp only [List.getElem_cons_zero, List.getElem_cons_succ]; go_simp <;> with_reducible rfl)
 simp only [List.getElem_cons_zero, List.getElem_cons_succ, Act.put, List.setIfInBounds_toArray, List.set_cons_zero, List.set_cons_succ]
 refine held_take 5 (v := ?_) (by simp) (by kernel_rfl) (by kernel_rfl) (by kernel_rfl) (fun _ _ _ h => h) (Or.inl ⟨by rfl, ?_⟩) hHeld ?_
 case refine_2 => (intro w hSw; (try dsimp only at hSw); (try (obtain ⟨s0, s1, s2, s3⟩ := hSw)); simp only [List.getElem_cons_zero, List.getElem_cons_succ]; go_simp <;> with_reducible rfl)
 simp only [List.getElem_cons_zero, List.getElem_cons_succ, Act.put, List.setIfInBounds_toArray, List.set_cons_zero, List.set_cons_succ]
 refine held_take 6 (v := ?_) (by simp) (by kernel_rfl) (by kernel_rfl) (by kernel_rfl) (fun _ _ _ h => h) (Or.inl ⟨by rfl, ?_⟩) hHeld ?_
 case refine_2 => (intro w hSw; (try dsimp only at hSw); (try (obtain ⟨s0, s1, s2, s3⟩ := hSw)); simp only [List.getElem_cons_zero, List.getElem_cons_succ]; go_simp <;> with_reducible rfl)
 simp only [List.getElem_cons_zero, List.getElem_cons_succ, Act.put, List.setIfInBounds_toArray, List.set_cons_zero, List.set_cons_succ]
 refine held_take 7 (v := ?_) (by simp) (by kernel_rfl) (by kernel_rfl) (by kernel_rfl) (fun _ _ _ h => h) (Or.inl ⟨by rfl, ?_⟩) hHeld ?_
 case refine_2 => (intro w hSw; (try dsimp only at hSw); (try (obtain ⟨s0, s1, s2, s3⟩ := hSw)); simp only [List.getElem_cons_zero, List.getElem_cons_succ]; go_simp <;> with_reducible rfl)
 simp only [List.getElem_cons_zero, List.getElem_cons_succ, Act.put, List.setIfInBounds_toArray, List.set_cons_zero, List.set_cons_succ]
 refine held_sole 3 (by simp) (by kernel_rfl) (fun K hK => ?_)
 simp only [List.getElem_cons_zero, List.getElem_cons_succ]
 go_simp
 refine HFI.out.mono ?_
 rintro e w6 ⟨A, rs, c, rfl, hFA, hfA, hb6⟩
 have HB6 := Lib.hid ((Below.refl _ _).drew.trans (show Below _ _ _ from hb6))
 have cB6 := (HB6.out.cell (p := ⟨g2, 0, none⟩) hgB).trans cB
 have HSM := Lib.hid (kr_same (W := w6) A B c c2 HP5.out (by omega) hFA (HFB.out.below HB6.out) hfA HfB.out)
 clear hFA hfA hb6 HFI
 go_wp2_with fail
 refine hK.out _ _ ⟨cB6, trivial, trivial, trivial⟩ (fun hHeld => ?_)
 clear hK K
 try simp only [Act.put, List.setIfInBounds_toArray, List.set_cons_zero, List.set_cons_succ]
 refine held_sole 8 (by simp) (by kernel_rfl) (fun K hK => ?_)
 simp only [List.getElem_cons_zero, List.getElem_cons_succ]
 go_simp
 refine HSM.out.mono ?_
 rintro e w7 ⟨rfl, hb7⟩
 have HB7 := Lib.hid (HB6.out.trans (hb7.mono HB6.out.size))
 have cB7 := (HB7.out.cell (p := ⟨g2, 0, none⟩) hgB).trans cB
 clear hb7 HSM
 go_wp2_with fail
 refine hK.out _ _ ⟨cB7, trivial, trivial, trivial⟩ (fun hHeld => ?_)
 clear hK K
 try simp only [Act.put, List.setIfInBounds_toArray, List.set_cons_zero, List.set_cons_succ]
 refine held_take 9 (v := ?_) (by simp) (by kernel_rfl) (by kernel_rfl) (by kernel_rfl) (fun _ _ _ h => h) (Or.inl ⟨by rfl, ?_⟩) hHeld ?_
 case refine_2 => (intro w hSw; (try dsimp only at hSw); (try (obtain ⟨s0, s1, s2, s3⟩ := hSw)); simp only [List.getElem_cons_zero, List.getElem_cons_succ]; go_simp <;> with_reducible rfl)
 simp only [List.getElem_cons_zero, List.getElem_cons_succ, Act.put, List.setIfInBounds_toArray, List.set_cons_zero, List.set_cons_succ]
 refine held_take 10 (v := ?_) (by simp) (by kernel_rfl) (by kernel_rfl) (by kernel_rfl) (fun _ _ _ h => h) (Or.inl ⟨by rfl, ?_⟩) hHeld ?_
 case refine_2 => (intro w hSw; (try dsimp only at hSw); (try (obtain ⟨s0, s1, s2, s3⟩ := hSw)); simp only [List.getElem_cons_zero, List.getElem_cons_succ]; go_simp <;> with_reducible rfl)
 simp only [List.getElem_cons_zero, List.getElem_cons_succ, Act.put, List.setIfInBounds_toArray, List.set_cons_zero, List.set_cons_succ]
 refine wpAnyH_done (by kernel_rfl) ?_ _
 clear hHeld cB cB6 cB7
 go_wp2_with fail
 go_ret
 exact ⟨rfl, _, HS5.out.below HB7.out, HP5.out, HB5.out.trans (HB7.out.mono HS5.out.size)⟩
set_option maxHeartbeats 8000000 in
set_option maxRecDepth 100000 in
theorem kact2_any {W : World} {lo g m g2 k : Nat} {d : DkD} (a : ActD) (hS : KS W lo g m g2 d d (fun _ => False)) (hP : PlayOk k d) (hk : k < 60) (hA : a.Ok W lo) (hF : ∀ W', Below lo W W' → Facts W') (ho : a.o = 2) (hdl : a.s.l.length ≤ 65536) (hbl : a.b.length ≤ 65536) :
  Calls Tryz.prog 10 #[.pointer (some ⟨g, 0, none⟩), .pointer (some ⟨g2, 0, none⟩), .agg a.cs.toArray] W fun e w' => e = .returned (.bool true) ∧ ActTo W lo g m g2 k w' := by
 have hlo := hS.size
 unfold ActD.cs
 obtain ⟨o, n, mm, ⟨i, t, Av, z, cv, Ad, l, cd⟩, Ak, kz, ck, nm, Ab, b, cb⟩ := a
 simp only at ho hdl hbl hA ⊢
 subst ho
 obtain ⟨hs, hz8, hn, hm, hkd, hkb, hkl, hnl, hb⟩ := hA
 obtain ⟨hsv, hsd, hsz, hszl, hsdl, hsi⟩ := hs
 simp only at hz8 hn hm hkd hkb hkl hnl hb hsv hsd hsz hszl hsdl hsi
 obtain ⟨wA, hwA⟩ : ∃ wA, wA = W.alloc (.cells #[.int .i64 2, .int .i64 n, .int .i64 mm, .int .i64 i, .int .i64 t, .slice Av z.length cv, .slice Ad l.length cd, .slice Ak kz.length ck, .string nm, .slice Ab b.length cb] 39) := ⟨_, rfl⟩
 have hbA : Below W.heap.size W wA := by rw [hwA]; exact (Below.refl _ W).alloc (Nat.le_refl _) _
 have hKA : Blk wA W.heap.size 39 #[.int .i64 2, .int .i64 n, .int .i64 mm, .int .i64 i, .int .i64 t, .slice Av z.length cv, .slice Ad l.length cd, .slice Ak kz.length ck, .string nm, .slice Ab b.length cb] := by rw [hwA]; exact Blk.new W 39 _
 have hsA : W.heap.size < wA.heap.size := hKA.lt
 have HSA := Lib.hid (hS.fresh hbA)
 have HBA := Lib.hid (hbA.mono hlo)
 have HBW := Lib.hid hbA
 have HKA := Lib.hid hKA
 have HWA := Lib.hid hwA
 have HP := Lib.hid hP
 have HF := Lib.hid hF
 have HSV := Lib.hid hsv
 have HSD := Lib.hid hsd
 have HSZ := Lib.hid hsz
 have HKD := Lib.hid hkd
 have HKB := Lib.hid hkb
 have HRB := Lib.hid hb
 have HS0 := Lib.hid hS
 have HSI := Lib.hid hsi
 have HN := Lib.hid hn
 have HM := Lib.hid hm
 obtain ⟨k0, k1, k2, k3, k4, k5, k6, k7, k8, k9⟩ := blk10_cells hKA
 clear hwA hbA hP hF hsv hsd hsz hkd hkb hb hS hsi hn hm
 go_enter Tryz.func10, Tryz.ntmps10
 go_upto_region 16 with (fail)
 rw [← HWA.out]
 have HAR := Lib.hid (kp_arm (W := wA.drew) (H := (fun q => W.heap.size ≤ q ∧ q < wA.heap.size)) (HSA.out.below ((Below.refl _ _).drew)) (fun q h => h.2) n mm HN.out HM.out)
 clear k0 k3 k4 k5 k6 k7 k8 k9
 refine wp_region_held_drew (by kernel_rfl) (S := fun W' => W'.cell? ⟨W.heap.size, 1, none⟩ = some (.int .i64 n) ∧ W'.cell? ⟨W.heap.size, 2, none⟩ = some (.int .i64 mm) ∧ True ∧ True) ⟨k1, k2, trivial, trivial⟩ (fun hHeld => ?_)
 refine held_take 0 (v := ?_) (by simp) (by kernel_rfl) (by kernel_rfl) (by kernel_rfl) (fun _ _ _ h => h) (Or.inl ⟨by rfl, ?_⟩) hHeld ?_
 case refine_2 => (intro w hSw; (try dsimp only at hSw); (try (obtain ⟨s0, s1, s2, s3⟩ := hSw)); simp only [List.getElem_cons_zero]; go_simp <;> with_reducible rfl)
 simp only [List.getElem_cons_zero, Act.put, List.setIfInBounds_toArray, List.set_cons_zero, List.set_cons_succ]
 refine held_take 1 (v := ?_) (by simp) (by kernel_rfl) (by kernel_rfl) (by kernel_rfl) (fun _ _ _ h => h) (Or.inl ⟨by rfl, ?_⟩) hHeld ?_
 case refine_2 => (intro w hSw; (try dsimp only at hSw); (try (obtain ⟨s0, s1, s2, s3⟩ := hSw)); simp only [List.getElem_cons_zero, List.getElem_cons_succ]; go_simp <;> with_reducible rfl)
 simp only [List.getElem_cons_zero, List.getElem_cons_succ, Act.put, List.setIfInBounds_toArray, List.set_cons_zero, List.set_cons_succ]
 refine held_take 2 (v := ?_) (by simp) (by kernel_rfl) (by kernel_rfl) (by kernel_rfl) (fun _ _ _ h => h) (Or.inl ⟨by rfl, ?_⟩) hHeld ?_
 case refine_2 => (intro w hSw; (try dsimp only at hSw); (try (obtain ⟨s0, s1, s2, s3⟩ := hSw)); simp only [List.getElem_cons_zero, List.getElem_cons_succ]; go_simp <;> with_reducible rfl)
 simp only [List.getElem_cons_zero, List.getElem_cons_succ, Act.put, List.setIfInBounds_toArray, List.set_cons_zero, List.set_cons_succ]
 refine held_take 3 (v := ?_) (by simp) (by kernel_rfl) (by kernel_rfl) (by kernel_rfl) (fun _ _ _ h => h) (Or.inl ⟨by rfl, ?_⟩) hHeld ?_
 case refine_2 => (intro w hSw; (try dsimp only at hSw); (try (obtain ⟨s0, s1, s2, s3⟩ := hSw)); simp only [List.getElem_cons_zero, List.getElem_cons_succ]; go_simp <;> with_reducible rfl)
 simp only [List.getElem_cons_zero, List.getElem_cons_succ, Act.put, List.setIfInBounds_toArray, List.set_cons_zero, List.set_cons_succ]
 refine held_take 4 (v := ?_) (by simp) (by kernel_rfl) (by kernel_rfl) (by kernel_rfl) (fun _ _ _ h => h) (Or.inl ⟨by rfl, ?_⟩) hHeld ?_
 case refine_2 => (intro w hSw; (try dsimp only at hSw); (try (obtain ⟨s0, s1, s2, s3⟩ := hSw)); simp only [List.getElem_cons_zero, List.getElem_cons_succ]; go_simp <;> with_reducible rfl)
 simp only [List.getElem_cons_zero, List.getElem_cons_succ, Act.put, List.setIfInBounds_toArray, List.set_cons_zero, List.set_cons_succ]
 refine held_take 5 (v := ?_) (by simp) (by kernel_rfl) (by kernel_rfl) (by kernel_rfl) (fun _ _ _ h => h) (Or.inl ⟨by rfl, ?_⟩) hHeld ?_
 case refine_2 => (intro w hSw; (try dsimp only at hSw); (try (obtain ⟨s0, s1, s2, s3⟩ := hSw)); simp only [List.getElem_cons_zero, List.getElem_cons_succ]; go_simp <;> with_reducible rfl)
 simp only [List.getElem_cons_zero, List.getElem_cons_succ, Act.put, List.setIfInBounds_toArray, List.set_cons_zero, List.set_cons_succ]
 refine held_take 6 (v := ?_) (by simp) (by kernel_rfl) (by kernel_rfl) (by kernel_rfl) (fun _ _ _ h => h) (Or.inl ⟨by rfl, ?_⟩) hHeld ?_
 case refine_2 => (intro w hSw; (try dsimp only at hSw); (try (obtain ⟨s0, s1, s2, s3⟩ := hSw)); simp only [List.getElem_cons_zero, List.getElem_cons_succ]; go_simp <;> with_reducible rfl)
 simp only [List.getElem_cons_zero, List.getElem_cons_succ, Act.put, List.setIfInBounds_toArray, List.set_cons_zero, List.set_cons_succ]
 refine held_sole 7 (by simp) (by kernel_rfl) (fun K hK => ?_)
 simp only [List.getElem_cons_zero, List.getElem_cons_succ]
 go_simp
 refine HAR.out.mono ?_
 rintro e w1 ⟨⟨v, rfl⟩, hT⟩
 have HT := Lib.hid hT
 have hK1 : Blk w1 W.heap.size 39 #[.int .i64 2, .int .i64 n, .int .i64 mm, .int .i64 i, .int .i64 t, .slice Av z.length cv, .slice Ad l.length cd, .slice Ak kz.length ck, .string nm, .slice Ab b.length cb] := (hT.2.2 W.heap.size hsA ⟨Nat.le_refl _, hsA⟩).trans hKA
 obtain ⟨c0, c1, c2, c3, c4, c5, c6, c7, c8, c9⟩ := blk10_cells hK1
 have HRA := Lib.hid (kr_arm HT.out.1 (fun q h => Nat.lt_of_lt_of_le h.2 (show wA.heap.size ≤ w1.heap.size from HT.out.2.1.size)) n mm HN.out HM.out)
 clear hT HAR hK1 c0 c3 c4 c5 c6 c7 c8 c9
 go_wp2_with fail
 refine hK.out _ _ ⟨c1, c2, trivial, trivial⟩ (fun hHeld => ?_)
 clear hK K
 try simp only [Act.put, List.setIfInBounds_toArray, List.set_cons_zero, List.set_cons_succ]
 refine wpAnyH_done (by kernel_rfl) ?_ _
 clear hHeld k1 k2
 go_wp2_with fail
 refine HRA.out.mono ?_
 rintro e w2 ⟨⟨v2, rfl⟩, hT2⟩
 have HT2 := Lib.hid hT2
 clear hT2 HRA c1 c2
 have HS5 := Lib.hid (KS.free HT2.out.1)
 have HP5 := Lib.hid (show PlayOk (k + 1) { d with pw := d.pw.arm2 n mm } from (HP.out.mono (k' := k + 1) (by omega)).pw _)
 have HB5 := Lib.hid ((HBA.out.trans (Below.refl _ _).drew).trans ((show Below lo wA.drew w1 from HT.out.2.1).trans HT2.out.2.1))
 obtain ⟨B, rs2, c2, cB, hFB, hfB, hgB⟩ := ks_row HS5.out
 have HFB := Lib.hid hFB
 have HfB := Lib.hid hfB
 have HFI := Lib.hid (kp_files (HS5.out.below ((Below.refl _ _).drew)) HP5.out (by omega))
 clear hFB hfB 
 go_wp2_with fail
 refine wp_region_held_drew (by kernel_rfl) (S := fun W => W.cell? ⟨g2, 0, none⟩ = some (.slice B rs2.length c2) ∧ True ∧ True ∧ True) ⟨cB, trivial, trivial, trivial⟩ (fun hHeld => ?_)
 refine held_take 0 (v := ?_) (by simp) (by kernel_rfl) (by kernel_rfl) (by kernel_rfl) (fun _ _ _ h => h) (Or.inl ⟨by rfl, ?_⟩) hHeld ?_
 case refine_2 => (intro w hSw; (try dsimp only at hSw); (try (obtain ⟨s0, s1, s2, s3⟩ := hSw)); simp only [List.getElem_cons_zero]; go_simp <;> with_reducible rfl)
 simp only [List.getElem_cons_zero, Act.put, List.setIfInBounds_toArray, List.set_cons_zero, List.set_cons_succ]
 refine held_take 1 (v := ?_) (by simp) (by kernel_rfl) (by kernel_rfl) (by kernel_rfl) (fun _ _ _ h => h) (Or.inl ⟨by rfl, ?_⟩) hHeld ?_
 case refine_2 => (intro w hSw; (try dsimp only at hSw); (try (obtain ⟨s0, s1, s2, s3⟩ := hSw)); simp only [List.getElem_cons_zero, List.getElem_cons_succ]; go_simp <;> with_reducible rfl)
 simp only [List.getElem_cons_zero, List.getElem_cons_succ, Act.put, List.setIfInBounds_toArray, List.set_cons_zero, List.set_cons_succ]
 refine held_take 2 (v := ?_) (by simp) (by kernel_rfl) (by kernel_rfl) (by kernel_rfl) (fun _ _ _ h => h) (Or.inl ⟨by rfl, ?_⟩) hHeld ?_
 case refine_2 => (intro w hSw; (try dsimp only at hSw); (try (obtain ⟨s0, s1, s2, s3⟩ := hSw)); simp only [List.getElem_cons_zero, List.getElem_cons_succ]; go_simp <;> with_reducible rfl)
 simp only [List.getElem_cons_zero, List.getElem_cons_succ, Act.put, List.setIfInBounds_toArray, List.set_cons_zero, List.set_cons_succ]
 refine held_take 4 (v := ?_) (by simp) (by kernel_rfl) (by kernel_rfl) (by kernel_rfl) (fun _ _ _ h => h) (Or.inl ⟨by rfl, ?_⟩) hHeld ?_
 case refine_2 => (intro w hSw; (try dsimp only at hSw); (try (obtain ⟨s0, s1, s2, s3⟩ := hSw)); simp only [List.getElem_cons_zero, List.getElem_cons_succ]; go_simp <;> with_reducible rfl)
 simp only [List.getElem_cons_zero, List.getElem_cons_succ, Act.put, List.setIfInBounds_toArray, List.set_cons_zero, List.set_cons_succ]
 refine held_take 5 (v := ?_) (by simp) (by kernel_rfl) (by kernel_rfl) (by kernel_rfl) (fun _ _ _ h => h) (Or.inl ⟨by rfl, ?_⟩) hHeld ?_
 case refine_2 => (intro w hSw; (try dsimp only at hSw); (try (obtain ⟨s0, s1, s2, s3⟩ := hSw)); simp only [List.getElem_cons_zero, List.getElem_cons_succ]; go_simp <;> with_reducible rfl)
 simp only [List.getElem_cons_zero, List.getElem_cons_succ, Act.put, List.setIfInBounds_toArray, List.set_cons_zero, List.set_cons_succ]
 refine held_take 6 (v := ?_) (by simp) (by kernel_rfl) (by kernel_rfl) (by kernel_rfl) (fun _ _ _ h => h) (Or.inl ⟨by rfl, ?_⟩) hHeld ?_
 case refine_2 => (intro w hSw; (try dsimp only at hSw); (try (obtain ⟨s0, s1, s2, s3⟩ := hSw)); simp only [List.getElem_cons_zero, List.getElem_cons_succ]; go_simp <;> with_reducible rfl)
 simp only [List.getElem_cons_zero, List.getElem_cons_succ, Act.put, List.setIfInBounds_toArray, List.set_cons_zero, List.set_cons_succ]
 refine held_take 7 (v := ?_) (by simp) (by kernel_rfl) (by kernel_rfl) (by kernel_rfl) (fun _ _ _ h => h) (Or.inl ⟨by rfl, ?_⟩) hHeld ?_
 case refine_2 => (intro w hSw; (try dsimp only at hSw); (try (obtain ⟨s0, s1, s2, s3⟩ := hSw)); simp only [List.getElem_cons_zero, List.getElem_cons_succ]; go_simp <;> with_reducible rfl)
 simp only [List.getElem_cons_zero, List.getElem_cons_succ, Act.put, List.setIfInBounds_toArray, List.set_cons_zero, List.set_cons_succ]
 refine held_sole 3 (by simp) (by kernel_rfl) (fun K hK => ?_)
 simp only [List.getElem_cons_zero, List.getElem_cons_succ]
 go_simp
 refine HFI.out.mono ?_
 rintro e w6 ⟨A, rs, c, rfl, hFA, hfA, hb6⟩
 have HB6 := Lib.hid ((Below.refl _ _).drew.trans (show Below _ _ _ from hb6))
 have cB6 := (HB6.out.cell (p := ⟨g2, 0, none⟩) hgB).trans cB
 have HSM := Lib.hid (kr_same (W := w6) A B c c2 HP5.out (by omega) hFA (HFB.out.below HB6.out) hfA HfB.out)
 clear hFA hfA hb6 HFI
 go_wp2_with fail
 refine hK.out _ _ ⟨cB6, trivial, trivial, trivial⟩ (fun hHeld => ?_)
 clear hK K
 try simp only [Act.put, List.setIfInBounds_toArray, List.set_cons_zero, List.set_cons_succ]
 refine held_sole 8 (by simp) (by kernel_rfl) (fun K hK => ?_)
 simp only [List.getElem_cons_zero, List.getElem_cons_succ]
 go_simp
 refine HSM.out.mono ?_
 rintro e w7 ⟨rfl, hb7⟩
 have HB7 := Lib.hid (HB6.out.trans (hb7.mono HB6.out.size))
 have cB7 := (HB7.out.cell (p := ⟨g2, 0, none⟩) hgB).trans cB
 clear hb7 HSM
 go_wp2_with fail
 refine hK.out _ _ ⟨cB7, trivial, trivial, trivial⟩ (fun hHeld => ?_)
 clear hK K
 try simp only [Act.put, List.setIfInBounds_toArray, List.set_cons_zero, List.set_cons_succ]
 refine held_take 9 (v := ?_) (by simp) (by kernel_rfl) (by kernel_rfl) (by kernel_rfl) (fun _ _ _ h => h) (Or.inl ⟨by rfl, ?_⟩) hHeld ?_
 case refine_2 => (intro w hSw; (try dsimp only at hSw); (try (obtain ⟨s0, s1, s2, s3⟩ := hSw)); simp only [List.getElem_cons_zero, List.getElem_cons_succ]; go_simp <;> with_reducible rfl)
 simp only [List.getElem_cons_zero, List.getElem_cons_succ, Act.put, List.setIfInBounds_toArray, List.set_cons_zero, List.set_cons_succ]
 refine held_take 10 (v := ?_) (by simp) (by kernel_rfl) (by kernel_rfl) (by kernel_rfl) (fun _ _ _ h => h) (Or.inl ⟨by rfl, ?_⟩) hHeld ?_
 case refine_2 => (intro w hSw; (try dsimp only at hSw); (try (obtain ⟨s0, s1, s2, s3⟩ := hSw)); simp only [List.getElem_cons_zero, List.getElem_cons_succ]; go_simp <;> with_reducible rfl)
 simp only [List.getElem_cons_zero, List.getElem_cons_succ, Act.put, List.setIfInBounds_toArray, List.set_cons_zero, List.set_cons_succ]
 refine wpAnyH_done (by kernel_rfl) ?_ _
 clear hHeld cB cB6 cB7
 go_wp2_with fail
 go_ret
 exact ⟨rfl, _, HS5.out.below HB7.out, HP5.out, HB5.out.trans (HB7.out.mono HS5.out.size)⟩
set_option maxHeartbeats 8000000 in
set_option maxRecDepth 100000 in
theorem kact3_any {W : World} {lo g m g2 k : Nat} {d : DkD} (a : ActD) (hS : KS W lo g m g2 d d (fun _ => False)) (hP : PlayOk k d) (hk : k < 60) (hA : a.Ok W lo) (hF : ∀ W', Below lo W W' → Facts W') (ho : a.o = 3) (hdl : a.s.l.length ≤ 65536) (hbl : a.b.length ≤ 65536) :
  Calls Tryz.prog 10 #[.pointer (some ⟨g, 0, none⟩), .pointer (some ⟨g2, 0, none⟩), .agg a.cs.toArray] W fun e w' => e = .returned (.bool true) ∧ ActTo W lo g m g2 k w' := by
 have hlo := hS.size
 unfold ActD.cs
 obtain ⟨o, n, mm, ⟨i, t, Av, z, cv, Ad, l, cd⟩, Ak, kz, ck, nm, Ab, b, cb⟩ := a
 simp only at ho hdl hbl hA ⊢
 subst ho
 obtain ⟨hs, hz8, hn, hm, hkd, hkb, hkl, hnl, hb⟩ := hA
 obtain ⟨hsv, hsd, hsz, hszl, hsdl, hsi⟩ := hs
 simp only at hz8 hn hm hkd hkb hkl hnl hb hsv hsd hsz hszl hsdl hsi
 obtain ⟨wA, hwA⟩ : ∃ wA, wA = W.alloc (.cells #[.int .i64 3, .int .i64 n, .int .i64 mm, .int .i64 i, .int .i64 t, .slice Av z.length cv, .slice Ad l.length cd, .slice Ak kz.length ck, .string nm, .slice Ab b.length cb] 39) := ⟨_, rfl⟩
 have hbA : Below W.heap.size W wA := by rw [hwA]; exact (Below.refl _ W).alloc (Nat.le_refl _) _
 have hKA : Blk wA W.heap.size 39 #[.int .i64 3, .int .i64 n, .int .i64 mm, .int .i64 i, .int .i64 t, .slice Av z.length cv, .slice Ad l.length cd, .slice Ak kz.length ck, .string nm, .slice Ab b.length cb] := by rw [hwA]; exact Blk.new W 39 _
 have hsA : W.heap.size < wA.heap.size := hKA.lt
 have HSA := Lib.hid (hS.fresh hbA)
 have HBA := Lib.hid (hbA.mono hlo)
 have HBW := Lib.hid hbA
 have HKA := Lib.hid hKA
 have HWA := Lib.hid hwA
 have HP := Lib.hid hP
 have HF := Lib.hid hF
 have HSV := Lib.hid hsv
 have HSD := Lib.hid hsd
 have HSZ := Lib.hid hsz
 have HKD := Lib.hid hkd
 have HKB := Lib.hid hkb
 have HRB := Lib.hid hb
 have HS0 := Lib.hid hS
 have HSI := Lib.hid hsi
 have HN := Lib.hid hn
 have HM := Lib.hid hm
 obtain ⟨k0, k1, k2, k3, k4, k5, k6, k7, k8, k9⟩ := blk10_cells hKA
 clear hwA hbA hP hF hsv hsd hsz hkd hkb hb hS hsi hn hm
 go_enter Tryz.func10, Tryz.ntmps10
 go_upto_region 19 with (fail)
 rw [← HWA.out]
 have HAR := Lib.hid (kp_boot HSA.out (fun q h => h.2) HP.out (by omega) Ak kz ck (HKD.out.below HBA.out) HKB.out hkl)
 clear k0 k1 k2 k3 k4 k5 k6 k8 k9
 go_wp2_with fail
 refine HAR.out.mono ?_
 rintro e w1 ⟨⟨v, rfl⟩, hT⟩
 have HT := Lib.hid hT
 have hK1 : Blk w1 W.heap.size 39 #[.int .i64 3, .int .i64 n, .int .i64 mm, .int .i64 i, .int .i64 t, .slice Av z.length cv, .slice Ad l.length cd, .slice Ak kz.length ck, .string nm, .slice Ab b.length cb] := (hT.2.2 W.heap.size hsA ⟨Nat.le_refl _, hsA⟩).trans hKA
 obtain ⟨c0, c1, c2, c3, c4, c5, c6, c7, c8, c9⟩ := blk10_cells hK1
 have HRA := Lib.hid (kr_boot HT.out.1 (fun q h => Nat.lt_of_lt_of_le h.2 HT.out.2.1.size) HP.out (by omega) Ak kz ck (HKD.out.below (HBA.out.trans HT.out.2.1)) HKB.out hkl)
 clear hT HAR hK1 c0 c1 c2 c3 c4 c5 c6 c8 c9 k7
 go_wp2_with fail
 refine HRA.out.mono ?_
 rintro e w2 ⟨⟨v2, rfl⟩, hT2⟩
 have HT2 := Lib.hid hT2
 clear hT2 HRA c7
 have HS5 := Lib.hid (KS.free HT2.out.1)
 have HP5 := Lib.hid (HP.out.boot kz)
 have HB5 := Lib.hid (HBA.out.trans (HT.out.2.1.trans HT2.out.2.1))
 obtain ⟨B, rs2, c2, cB, hFB, hfB, hgB⟩ := ks_row HS5.out
 have HFB := Lib.hid hFB
 have HfB := Lib.hid hfB
 have HFI := Lib.hid (kp_files (HS5.out.below ((Below.refl _ _).drew)) HP5.out (by omega))
 clear hFB hfB 
 go_wp2_with fail
 refine wp_region_held_drew (by kernel_rfl) (S := fun W => W.cell? ⟨g2, 0, none⟩ = some (.slice B rs2.length c2) ∧ True ∧ True ∧ True) ⟨cB, trivial, trivial, trivial⟩ (fun hHeld => ?_)
 refine held_take 0 (v := ?_) (by simp) (by kernel_rfl) (by kernel_rfl) (by kernel_rfl) (fun _ _ _ h => h) (Or.inl ⟨by rfl, ?_⟩) hHeld ?_
 case refine_2 => (intro w hSw; (try dsimp only at hSw); (try (obtain ⟨s0, s1, s2, s3⟩ := hSw)); simp only [List.getElem_cons_zero]; go_simp <;> with_reducible rfl)
 simp only [List.getElem_cons_zero, Act.put, List.setIfInBounds_toArray, List.set_cons_zero, List.set_cons_succ]
 refine held_take 1 (v := ?_) (by simp) (by kernel_rfl) (by kernel_rfl) (by kernel_rfl) (fun _ _ _ h => h) (Or.inl ⟨by rfl, ?_⟩) hHeld ?_
 case refine_2 => (intro w hSw; (try dsimp only at hSw); (try (obtain ⟨s0, s1, s2, s3⟩ := hSw)); simp only [List.getElem_cons_zero, List.getElem_cons_succ]; go_simp <;> with_reducible rfl)
 simp only [List.getElem_cons_zero, List.getElem_cons_succ, Act.put, List.setIfInBounds_toArray, List.set_cons_zero, List.set_cons_succ]
 refine held_take 2 (v := ?_) (by simp) (by kernel_rfl) (by kernel_rfl) (by kernel_rfl) (fun _ _ _ h => h) (Or.inl ⟨by rfl, ?_⟩) hHeld ?_
 case refine_2 => (intro w hSw; (try dsimp only at hSw); (try (obtain ⟨s0, s1, s2, s3⟩ := hSw)); simp only [List.getElem_cons_zero, List.getElem_cons_succ]; go_simp <;> with_reducible rfl)
 simp only [List.getElem_cons_zero, List.getElem_cons_succ, Act.put, List.setIfInBounds_toArray, List.set_cons_zero, List.set_cons_succ]
 refine held_take 4 (v := ?_) (by simp) (by kernel_rfl) (by kernel_rfl) (by kernel_rfl) (fun _ _ _ h => h) (Or.inl ⟨by rfl, ?_⟩) hHeld ?_
 case refine_2 => (intro w hSw; (try dsimp only at hSw); (try (obtain ⟨s0, s1, s2, s3⟩ := hSw)); simp only [List.getElem_cons_zero, List.getElem_cons_succ]; go_simp <;> with_reducible rfl)
 simp only [List.getElem_cons_zero, List.getElem_cons_succ, Act.put, List.setIfInBounds_toArray, List.set_cons_zero, List.set_cons_succ]
 refine held_take 5 (v := ?_) (by simp) (by kernel_rfl) (by kernel_rfl) (by kernel_rfl) (fun _ _ _ h => h) (Or.inl ⟨by rfl, ?_⟩) hHeld ?_
 case refine_2 => (intro w hSw; (try dsimp only at hSw); (try (obtain ⟨s0, s1, s2, s3⟩ := hSw)); simp only [List.getElem_cons_zero, List.getElem_cons_succ]; go_simp <;> with_reducible rfl)
 simp only [List.getElem_cons_zero, List.getElem_cons_succ, Act.put, List.setIfInBounds_toArray, List.set_cons_zero, List.set_cons_succ]
 refine held_take 6 (v := ?_) (by simp) (by kernel_rfl) (by kernel_rfl) (by kernel_rfl) (fun _ _ _ h => h) (Or.inl ⟨by rfl, ?_⟩) hHeld ?_
 case refine_2 => (intro w hSw; (try dsimp only at hSw); (try (obtain ⟨s0, s1, s2, s3⟩ := hSw)); simp only [List.getElem_cons_zero, List.getElem_cons_succ]; go_simp <;> with_reducible rfl)
 simp only [List.getElem_cons_zero, List.getElem_cons_succ, Act.put, List.setIfInBounds_toArray, List.set_cons_zero, List.set_cons_succ]
 refine held_take 7 (v := ?_) (by simp) (by kernel_rfl) (by kernel_rfl) (by kernel_rfl) (fun _ _ _ h => h) (Or.inl ⟨by rfl, ?_⟩) hHeld ?_
 case refine_2 => (intro w hSw; (try dsimp only at hSw); (try (obtain ⟨s0, s1, s2, s3⟩ := hSw)); simp only [List.getElem_cons_zero, List.getElem_cons_succ]; go_simp <;> with_reducible rfl)
 simp only [List.getElem_cons_zero, List.getElem_cons_succ, Act.put, List.setIfInBounds_toArray, List.set_cons_zero, List.set_cons_succ]
 refine held_sole 3 (by simp) (by kernel_rfl) (fun K hK => ?_)
 simp only [List.getElem_cons_zero, List.getElem_cons_succ]
 go_simp
 refine HFI.out.mono ?_
 rintro e w6 ⟨A, rs, c, rfl, hFA, hfA, hb6⟩
 have HB6 := Lib.hid ((Below.refl _ _).drew.trans (show Below _ _ _ from hb6))
 have cB6 := (HB6.out.cell (p := ⟨g2, 0, none⟩) hgB).trans cB
 have HSM := Lib.hid (kr_same (W := w6) A B c c2 HP5.out (by omega) hFA (HFB.out.below HB6.out) hfA HfB.out)
 clear hFA hfA hb6 HFI
 go_wp2_with fail
 refine hK.out _ _ ⟨cB6, trivial, trivial, trivial⟩ (fun hHeld => ?_)
 clear hK K
 try simp only [Act.put, List.setIfInBounds_toArray, List.set_cons_zero, List.set_cons_succ]
 refine held_sole 8 (by simp) (by kernel_rfl) (fun K hK => ?_)
 simp only [List.getElem_cons_zero, List.getElem_cons_succ]
 go_simp
 refine HSM.out.mono ?_
 rintro e w7 ⟨rfl, hb7⟩
 have HB7 := Lib.hid (HB6.out.trans (hb7.mono HB6.out.size))
 have cB7 := (HB7.out.cell (p := ⟨g2, 0, none⟩) hgB).trans cB
 clear hb7 HSM
 go_wp2_with fail
 refine hK.out _ _ ⟨cB7, trivial, trivial, trivial⟩ (fun hHeld => ?_)
 clear hK K
 try simp only [Act.put, List.setIfInBounds_toArray, List.set_cons_zero, List.set_cons_succ]
 refine held_take 9 (v := ?_) (by simp) (by kernel_rfl) (by kernel_rfl) (by kernel_rfl) (fun _ _ _ h => h) (Or.inl ⟨by rfl, ?_⟩) hHeld ?_
 case refine_2 => (intro w hSw; (try dsimp only at hSw); (try (obtain ⟨s0, s1, s2, s3⟩ := hSw)); simp only [List.getElem_cons_zero, List.getElem_cons_succ]; go_simp <;> with_reducible rfl)
 simp only [List.getElem_cons_zero, List.getElem_cons_succ, Act.put, List.setIfInBounds_toArray, List.set_cons_zero, List.set_cons_succ]
 refine held_take 10 (v := ?_) (by simp) (by kernel_rfl) (by kernel_rfl) (by kernel_rfl) (fun _ _ _ h => h) (Or.inl ⟨by rfl, ?_⟩) hHeld ?_
 case refine_2 => (intro w hSw; (try dsimp only at hSw); (try (obtain ⟨s0, s1, s2, s3⟩ := hSw)); simp only [List.getElem_cons_zero, List.getElem_cons_succ]; go_simp <;> with_reducible rfl)
 simp only [List.getElem_cons_zero, List.getElem_cons_succ, Act.put, List.setIfInBounds_toArray, List.set_cons_zero, List.set_cons_succ]
 refine wpAnyH_done (by kernel_rfl) ?_ _
 clear hHeld cB cB6 cB7
 go_wp2_with fail
 go_ret
 exact ⟨rfl, _, HS5.out.below HB7.out, HP5.out, HB5.out.trans (HB7.out.mono HS5.out.size)⟩
end Go.Proofs.YteehkcpokgeipaaGreatDoor
set_option linter.unusedVariables false
set_option linter.unusedSimpArgs false
namespace Go.Proofs.YteehkcpokgeipaaGreatDoor
open Go.RowKit Go.Maps Go.Sort Oct
set_option maxHeartbeats 8000000 in
set_option maxRecDepth 100000 in
theorem kact0_any {W : World} {lo g m g2 k : Nat} {d : DkD} (a : ActD) (hS : KS W lo g m g2 d d (fun _ => False)) (hP : PlayOk k d) (hk : k < 60) (hA : a.Ok W lo) (hF : ∀ W', Below lo W W' → Facts W') (ho : a.o = 0) (hdl : a.s.l.length ≤ 65536) (hbl : a.b.length ≤ 65536) :
  Calls Tryz.prog 10 #[.pointer (some ⟨g, 0, none⟩), .pointer (some ⟨g2, 0, none⟩), .agg a.cs.toArray] W fun e w' => e = .returned (.bool true) ∧ ActTo W lo g m g2 k w' := by
 have hlo := hS.size
 unfold ActD.cs
 obtain ⟨o, n, mm, ⟨i, t, Av, z, cv, Ad, l, cd⟩, Ak, kz, ck, nm, Ab, b, cb⟩ := a
 simp only at ho hdl hbl hA ⊢
 subst ho
 obtain ⟨hs, hz8, hn, hm, hkd, hkb, hkl, hnl, hb⟩ := hA
 obtain ⟨hsv, hsd, hsz, hszl, hsdl, hsi⟩ := hs
 simp only at hz8 hn hm hkd hkb hkl hnl hb hsv hsd hsz hszl hsdl hsi
 obtain ⟨wA, hwA⟩ : ∃ wA, wA = W.alloc (.cells #[.int .i64 0, .int .i64 n, .int .i64 mm, .int .i64 i, .int .i64 t, .slice Av z.length cv, .slice Ad l.length cd, .slice Ak kz.length ck, .string nm, .slice Ab b.length cb] 39) := ⟨_, rfl⟩
 have hbA : Below W.heap.size W wA := by rw [hwA]; exact (Below.refl _ W).alloc (Nat.le_refl _) _
 have hKA : Blk wA W.heap.size 39 #[.int .i64 0, .int .i64 n, .int .i64 mm, .int .i64 i, .int .i64 t, .slice Av z.length cv, .slice Ad l.length cd, .slice Ak kz.length ck, .string nm, .slice Ab b.length cb] := by rw [hwA]; exact Blk.new W 39 _
 have hsA : W.heap.size < wA.heap.size := hKA.lt
 have HSA := Lib.hid (hS.fresh hbA)
 have HBA := Lib.hid (hbA.mono hlo)
 have HBW := Lib.hid hbA
 have HKA := Lib.hid hKA
 have HWA := Lib.hid hwA
 have HP := Lib.hid hP
 have HF := Lib.hid hF
 have HSV := Lib.hid hsv
 have HSD := Lib.hid hsd
 have HSZ := Lib.hid hsz
 have HKD := Lib.hid hkd
 have HKB := Lib.hid hkb
 have HRB := Lib.hid hb
 have HS0 := Lib.hid hS
 have HSI := Lib.hid hsi
 have HN := Lib.hid hn
 have HM := Lib.hid hm
 obtain ⟨k0, k1, k2, k3, k4, k5, k6, k7, k8, k9⟩ := blk10_cells hKA
 clear hwA hbA hP hF hsv hsd hsz hkd hkb hb hS hsi hn hm
 go_enter Tryz.func10, Tryz.ntmps10
 go_upto_region 4 with (fail)
 rw [← HWA.out]
 have hLT := snapLent_big i t z l Av Ad z.length cv l.length cd rfl rfl wA ((HSV.out.below HBA.out).more (by omega)) ((HSD.out.below HBA.out).more (by omega)) hz8 (by omega)
 unfold snapV at hLT
 have HLT := Lib.hid hLT
 clear hLT k0 k1 k2 k7 k8 k9
 go_wp2_with fail
 refine HLT.out.mono ?_
 rintro e w1 ⟨xx, gl, rfl, hx1, hgl, hgl1, hne, hb1⟩
 obtain ⟨Ax, cx, rfl, hcx, hcx2, _⟩ := is_shape hx1
 have hs1 := hb1.size
 obtain ⟨w2, hw2⟩ : ∃ w2, w2 = w1.alloc (.cells #[.int .i64 i, .int .i64 t, .slice Ax z.length cx, .slice (some ⟨gl, 0, none⟩) l.length (l.length + 1)] 29) := ⟨_, rfl⟩
 have hb2 : Below w1.heap.size w1 w2 := by rw [hw2]; exact (Below.refl _ w1).alloc (Nat.le_refl _) _
 have hK2 : Blk w2 w1.heap.size 29 #[.int .i64 i, .int .i64 t, .slice Ax z.length cx, .slice (some ⟨gl, 0, none⟩) l.length (l.length + 1)] := by rw [hw2]; exact Blk.new w1 29 _
 have hlt2 : w1.heap.size < w2.heap.size := hK2.lt
 have HB2 := Lib.hid (hb1.trans (hb2.mono hs1))
 have hX2 : Is w2 wA.heap.size (.slice Ax z.length cx) z := Own.below hx1 hb2 (Nat.le_refl _)
 have hgl2 : gl < w1.heap.size := Blk.lt hgl
 have hL2 : LentAt w2 gl l := Blk.below hgl hb2 hgl2
 have HXL := Lib.hid (Own.lt hx1)
 have HX2 := Lib.hid hX2
 have HL2 := Lib.hid hL2
 have HKS := Lib.hid (HS0.out.fresh (HBW.out.trans (HB2.out.mono (Nat.le_of_lt hsA))))
 have HKA2 := Lib.hid (HKA.out.below HB2.out hsA)
 have HK2 := Lib.hid hK2
 have HW2 := Lib.hid hw2
 have HNE := Lib.hid hne
 have HBL2 := Lib.hid (HBA.out.trans (HB2.out.mono (by omega)))
 obtain ⟨RR, hRR⟩ : ∃ RR, RR = saveD d i (snapE i t z l) (fileL (snapS i t z l)) := ⟨_, rfl⟩
 have hSV1 := kp_save HKS.out (fun q h => h.2) HP.out (by omega) i t Ax (some ⟨gl, 0, none⟩) z l z.length cx l.length (l.length + 1) rfl rfl (own_rd hX2) (hL2.rd.more (by omega)) HSZ.out hszl HSI.out hdl (fun W' hb => HF.out W' (HBL2.out.trans hb))
 rw [← hRR] at hSV1
 unfold snapV at hSV1
 have HSV1 := Lib.hid hSV1
 have HRR := Lib.hid hRR
 obtain ⟨q0, q1, q2, q3, _, _, _, _⟩ := blk4_cells hK2
 clear hb1 hb2 hx1 hgl hne hK2 hw2 hX2 hL2 hSV1 hRR HLT k3 k4 k5 k6
 go_upto_region 5 with (fail)
 rw [← HW2.out]
 go_wp2_with fail
 refine HSV1.out.mono ?_
 rintro e w3 ⟨rfl, hT⟩
 have HT := Lib.hid hT
 have hs3 := hT.2.1.size
 have hkeep3 : ∀ q, W.heap.size ≤ q → q < w2.heap.size → w3.heap[q]? = w2.heap[q]? := fun q h1 h2 => hT.2.2 q h2 ⟨h1, h2⟩
 have hKA3 : Blk w3 W.heap.size 39 #[.int .i64 0, .int .i64 n, .int .i64 mm, .int .i64 i, .int .i64 t, .slice Av z.length cv, .slice Ad l.length cd, .slice Ak kz.length ck, .string nm, .slice Ab b.length cb] := (hkeep3 W.heap.size (Nat.le_refl _) (by omega)).trans HKA2.out
 have HK3 := Lib.hid hkeep3
 have HBL3 := Lib.hid (HBL2.out.trans hT.2.1)
 have hSV2 := kr_save HT.out.1 (fun q h => by omega) HP.out (by omega) i t Av Ad z l z.length cv l.length cd rfl rfl ((HSV.out.below HBL3.out).more (by omega)) ((HSD.out.below HBL3.out).more (by omega)) HSZ.out hszl HSI.out hdl
 rw [← HRR.out] at hSV2
 unfold snapV at hSV2
 have HSV2 := Lib.hid hSV2
 obtain ⟨c0, c1, c2, c3, c4, c5, c6, c7, c8, c9⟩ := blk10_cells hKA3
 clear hT hkeep3 hKA3 hSV2 HSV1 q0 q1 q2 q3 c0 c1 c2 c7 c8 c9
 go_wp2_with fail
 refine HSV2.out.mono ?_
 rintro e w4 ⟨rfl, hT4⟩
 have HT4 := Lib.hid hT4
 have hs4 := hT4.2.1.size
 have hkeep4 : ∀ q, W.heap.size ≤ q → q < w2.heap.size → w4.heap[q]? = w2.heap[q]? := fun q h1 h2 => (hT4.2.2 q (by omega) ⟨h1, h2⟩).trans (HK3.out q h1 h2)
 have hKA4 : Blk w4 W.heap.size 39 #[.int .i64 0, .int .i64 n, .int .i64 mm, .int .i64 i, .int .i64 t, .slice Av z.length cv, .slice Ad l.length cd, .slice Ak kz.length ck, .string nm, .slice Ab b.length cb] := (hkeep4 W.heap.size (Nat.le_refl _) (by omega)).trans HKA2.out
 have hKI4 : Blk w4 w1.heap.size 29 _ := (hkeep4 w1.heap.size (by omega) hlt2).trans HK2.out
 have hX4 : Is w4 wA.heap.size (.slice Ax z.length cx) z := own_keepB HX2.out (fun q e => hkeep4 q (by have := HXL.out q e; omega) (by have := HXL.out q e; omega))
 have hL4 : LentAt w4 gl l := (hkeep4 gl (by omega) (by omega)).trans HL2.out
 have HBL4 := Lib.hid (HBL3.out.trans hT4.2.1)
 have hKP := snapKept_any i t z l Ax z.length cx gl Av Ad z.length cv l.length cd rfl rfl rfl w4 wA.heap.size hX4 hL4 hgl1 HNE.out ((HSV.out.below HBL4.out).more (by omega)) ((HSD.out.below HBL4.out).more (by omega)) (by omega) (by omega)
 unfold snapV at hKP
 have HKP := Lib.hid hKP
 obtain ⟨e0, e1, e2, e3, e4, e5, e6, e7, e8, e9⟩ := blk10_cells hKA4
 obtain ⟨q0, q1, q2, q3, _, _, _, _⟩ := blk4_cells hKI4
 clear hT4 hkeep4 hKA4 hKI4 hX4 hL4 hKP HSV2 c3 c4 c5 c6 e0 e1 e2 e7 e8 e9
 go_wp2_with fail
 refine HKP.out.mono ?_
 rintro e w5 ⟨rfl, hbut⟩
 have HXL5 : Hid (∀ q, (Value.slice (some ⟨gl, 0, none⟩) l.length (l.length + 1)).ownBlock = some q → q = gl) := Lib.hid fun q e => by
  have h : gl = q := by simpa [Value.ownBlock] using e
  exact h.symm
 have HKS6 := Lib.hid (HT4.out.1.keep hbut.size (fun q h1 h2 h3 => hbut.block q h2 (fun e => h3 (by have := HXL.out q e; omega)) (fun e => h3 (by have := HXL5.out q e; omega))))
 have HB6' := Lib.hid (HBL4.out.trans (hbut.below (base := lo) (by omega) (fun q e => by have := HXL.out q e; omega) (fun q e => by have := HXL5.out q e; omega)))
 clear hbut HKP e3 e4 e5 e6 q0 q1 q2 q3
 have HS5 := Lib.hid (KS.free HKS6.out)
 have HP5 := Lib.hid (show PlayOk (k + 1) RR.2 by rw [HRR.out]; exact HP.out.save HSI.out HSZ.out hdl)
 have HB5 := Lib.hid HB6'.out
 obtain ⟨B, rs2, c2, cB, hFB, hfB, hgB⟩ := ks_row HS5.out
 have HFB := Lib.hid hFB
 have HfB := Lib.hid hfB
 have HFI := Lib.hid (kp_files (HS5.out.below ((Below.refl _ _).drew)) HP5.out (by omega))
 clear hFB hfB 
 go_wp2_with fail
 refine wp_region_held_drew (by kernel_rfl) (S := fun W => W.cell? ⟨g2, 0, none⟩ = some (.slice B rs2.length c2) ∧ True ∧ True ∧ True) ⟨cB, trivial, trivial, trivial⟩ (fun hHeld => ?_)
 refine held_take 0 (v := ?_) (by simp) (by kernel_rfl) (by kernel_rfl) (by kernel_rfl) (fun _ _ _ h => h) (Or.inl ⟨by rfl, ?_⟩) hHeld ?_
 case refine_2 => (intro w hSw; (try dsimp only at hSw); (try (obtain ⟨s0, s1, s2, s3⟩ := hSw)); simp only [List.getElem_cons_zero]; go_simp <;> with_reducible rfl)
 simp only [List.getElem_cons_zero, Act.put, List.setIfInBounds_toArray, List.set_cons_zero, List.set_cons_succ]
 refine held_take 1 (v := ?_) (by simp) (by kernel_rfl) (by kernel_rfl) (by kernel_rfl) (fun _ _ _ h => h) (Or.inl ⟨by rfl, ?_⟩) hHeld ?_
 case refine_2 => (intro w hSw; (try dsimp only at hSw); (try (obtain ⟨s0, s1, s2, s3⟩ := hSw)); simp only [List.getElem_cons_zero, List.getElem_cons_succ]; go_simp <;> with_reducible rfl)
 simp only [List.getElem_cons_zero, List.getElem_cons_succ, Act.put, List.setIfInBounds_toArray, List.set_cons_zero, List.set_cons_succ]
 refine held_take 2 (v := ?_) (by simp) (by kernel_rfl) (by kernel_rfl) (by kernel_rfl) (fun _ _ _ h => h) (Or.inl ⟨by rfl, ?_⟩) hHeld ?_
 case refine_2 => (intro w hSw; (try dsimp only at hSw); (try (obtain ⟨s0, s1, s2, s3⟩ := hSw)); simp only [List.getElem_cons_zero, List.getElem_cons_succ]; go_simp <;> with_reducible rfl)
 simp only [List.getElem_cons_zero, List.getElem_cons_succ, Act.put, List.setIfInBounds_toArray, List.set_cons_zero, List.set_cons_succ]
 refine held_take 4 (v := ?_) (by simp) (by kernel_rfl) (by kernel_rfl) (by kernel_rfl) (fun _ _ _ h => h) (Or.inl ⟨by rfl, ?_⟩) hHeld ?_
 case refine_2 => (intro w hSw; (try dsimp only at hSw); (try (obtain ⟨s0, s1, s2, s3⟩ := hSw)); simp only [List.getElem_cons_zero, List.getElem_cons_succ]; go_simp <;> with_reducible rfl)
 simp only [List.getElem_cons_zero, List.getElem_cons_succ, Act.put, List.setIfInBounds_toArray, List.set_cons_zero, List.set_cons_succ]
 refine held_take 5 (v := ?_) (by simp) (by kernel_rfl) (by kernel_rfl) (by kernel_rfl) (fun _ _ _ h => h) (Or.inl ⟨by rfl, ?_⟩) hHeld ?_
 case refine_2 => (intro w hSw; (try dsimp only at hSw); (try (obtain ⟨s0, s1, s2, s3⟩ := hSw)); simp only [List.getElem_cons_zero, List.getElem_cons_succ]; go_simp <;> with_reducible rfl)
 simp only [List.getElem_cons_zero, List.getElem_cons_succ, Act.put, List.setIfInBounds_toArray, List.set_cons_zero, List.set_cons_succ]
 refine held_take 6 (v := ?_) (by simp) (by kernel_rfl) (by kernel_rfl) (by kernel_rfl) (fun _ _ _ h => h) (Or.inl ⟨by rfl, ?_⟩) hHeld ?_
 case refine_2 => (intro w hSw; (try dsimp only at hSw); (try (obtain ⟨s0, s1, s2, s3⟩ := hSw)); simp only [List.getElem_cons_zero, List.getElem_cons_succ]; go_simp <;> with_reducible rfl)
 simp only [List.getElem_cons_zero, List.getElem_cons_succ, Act.put, List.setIfInBounds_toArray, List.set_cons_zero, List.set_cons_succ]
 refine held_take 7 (v := ?_) (by simp) (by kernel_rfl) (by kernel_rfl) (by kernel_rfl) (fun _ _ _ h => h) (Or.inl ⟨by rfl, ?_⟩) hHeld ?_
 case refine_2 => (intro w hSw; (try dsimp only at hSw); (try (obtain ⟨s0, s1, s2, s3⟩ := hSw)); simp only [List.getElem_cons_zero, List.getElem_cons_succ]; go_simp <;> with_reducible rfl)
 simp only [List.getElem_cons_zero, List.getElem_cons_succ, Act.put, List.setIfInBounds_toArray, List.set_cons_zero, List.set_cons_succ]
 refine held_sole 3 (by simp) (by kernel_rfl) (fun K hK => ?_)
 simp only [List.getElem_cons_zero, List.getElem_cons_succ]
 go_simp
 refine HFI.out.mono ?_
 rintro e w6 ⟨A, rs, c, rfl, hFA, hfA, hb6⟩
 have HB6 := Lib.hid ((Below.refl _ _).drew.trans (show Below _ _ _ from hb6))
 have cB6 := (HB6.out.cell (p := ⟨g2, 0, none⟩) hgB).trans cB
 have HSM := Lib.hid (kr_same (W := w6) A B c c2 HP5.out (by omega) hFA (HFB.out.below HB6.out) hfA HfB.out)
 clear hFA hfA hb6 HFI
 go_wp2_with fail
 refine hK.out _ _ ⟨cB6, trivial, trivial, trivial⟩ (fun hHeld => ?_)
 clear hK K
 try simp only [Act.put, List.setIfInBounds_toArray, List.set_cons_zero, List.set_cons_succ]
 refine held_sole 8 (by simp) (by kernel_rfl) (fun K hK => ?_)
 simp only [List.getElem_cons_zero, List.getElem_cons_succ]
 go_simp
 refine HSM.out.mono ?_
 rintro e w7 ⟨rfl, hb7⟩
 have HB7 := Lib.hid (HB6.out.trans (hb7.mono HB6.out.size))
 have cB7 := (HB7.out.cell (p := ⟨g2, 0, none⟩) hgB).trans cB
 clear hb7 HSM
 go_wp2_with fail
 refine hK.out _ _ ⟨cB7, trivial, trivial, trivial⟩ (fun hHeld => ?_)
 clear hK K
 try simp only [Act.put, List.setIfInBounds_toArray, List.set_cons_zero, List.set_cons_succ]
 refine held_take 9 (v := ?_) (by simp) (by kernel_rfl) (by kernel_rfl) (by kernel_rfl) (fun _ _ _ h => h) (Or.inl ⟨by rfl, ?_⟩) hHeld ?_
 case refine_2 => (intro w hSw; (try dsimp only at hSw); (try (obtain ⟨s0, s1, s2, s3⟩ := hSw)); simp only [List.getElem_cons_zero, List.getElem_cons_succ]; go_simp <;> with_reducible rfl)
 simp only [List.getElem_cons_zero, List.getElem_cons_succ, Act.put, List.setIfInBounds_toArray, List.set_cons_zero, List.set_cons_succ]
 refine held_take 10 (v := ?_) (by simp) (by kernel_rfl) (by kernel_rfl) (by kernel_rfl) (fun _ _ _ h => h) (Or.inl ⟨by rfl, ?_⟩) hHeld ?_
 case refine_2 => (intro w hSw; (try dsimp only at hSw); (try (obtain ⟨s0, s1, s2, s3⟩ := hSw)); simp only [List.getElem_cons_zero, List.getElem_cons_succ]; go_simp <;> with_reducible rfl)
 simp only [List.getElem_cons_zero, List.getElem_cons_succ, Act.put, List.setIfInBounds_toArray, List.set_cons_zero, List.set_cons_succ]
 refine wpAnyH_done (by kernel_rfl) ?_ _
 clear hHeld cB cB6 cB7
 go_wp2_with fail
 go_ret
 exact ⟨rfl, _, HS5.out.below HB7.out, HP5.out, HB5.out.trans (HB7.out.mono HS5.out.size)⟩
end Go.Proofs.YteehkcpokgeipaaGreatDoor
set_option linter.unusedVariables false
namespace Go.Proofs.YteehkcpokgeipaaGreatDoor
open Go.RowKit Go.Maps Go.Sort Oct
theorem kact_any {W : World} {lo g m g2 k : Nat} {d : DkD} (a : ActD) (hS : KS W lo g m g2 d d (fun _ => False)) (hP : PlayOk k d) (hk : k < 60) (hA : a.Ok W lo) (hF : ∀ W', Below lo W W' → Facts W') (hdl : a.s.l.length ≤ 65536) (hbl : a.b.length ≤ 65536) :
  Calls Tryz.prog 10 #[.pointer (some ⟨g, 0, none⟩), .pointer (some ⟨g2, 0, none⟩), .agg a.cs.toArray] W fun e w' => e = .returned (.bool true) ∧ ActTo W lo g m g2 k w' := by
 by_cases h0 : a.o = 0
 ·exact kact0_any a hS hP hk hA hF h0 hdl hbl
 by_cases h1 : a.o = 1
 ·exact kact1_any a hS hP hk hA hF h1 hdl hbl
 by_cases h2 : a.o = 2
 ·exact kact2_any a hS hP hk hA hF h2 hdl hbl
 by_cases h3 : a.o = 3
 ·exact kact3_any a hS hP hk hA hF h3 hdl hbl
 by_cases h4 : a.o = 4
 ·exact kact4_any a hS hP hk hA hF h4 hdl hbl
 by_cases h5 : a.o = 5
 ·exact kact5_any a hS hP hk hA hF h5 hdl hbl
 by_cases h6 : a.o = 6
 ·exact kact6_any a hS hP hk hA hF h6 hdl hbl
 exact kactx_any a hS hP hk hA hF ⟨h0, h1, h2, h3, h4, h5, h6⟩ hdl hbl
theorem acs_at (acs : List ActD) {k : Nat} (hk : k < acs.length) {j : Nat} (hj : j < 10) : (acs.flatMap ActD.cs)[k * 10 + j]? = (acs[k].cs)[j]? := by
 induction acs generalizing k with
 | nil => simp at hk
 | cons x r ih =>
  rw [List.flatMap_cons]
  cases k with
  | zero => rw [List.getElem?_append_left (by simp [ActD.cs]; omega)]; simp
  | succ k =>
   rw [List.getElem?_append_right (by simp [ActD.cs]; omega)]
   have : (k + 1) * 10 + j - x.cs.length = k * 10 + j := by simp [ActD.cs]; omega
   rw [this, ih (by simpa using hk)]
   rfl
theorem acs_len (acs : List ActD) : (acs.flatMap ActD.cs).length = 10 * acs.length := by
 induction acs with
 | nil => rfl
 | cons x r ih => rw [List.flatMap_cons, List.length_append, ih]; simp [ActD.cs]; omega
theorem ActD.Ok.more {w : World} {B B' : Nat} {a : ActD} (h : a.Ok w B) (hB : B ≤ B') : a.Ok w B' :=
 ⟨⟨h.s.v.more hB, h.s.d.more hB, h.s.z, h.s.zl, h.s.dl, h.s.i⟩, h.z8, h.n, h.m, h.k.more hB, h.kb, h.kl, h.nl, h.b.more hB⟩
theorem ks_start {w2 w3 : World} {lo g2 : Nat} {room : Int} (hD : DiskAt w2 lo (lo + 1) lo ⟨false, false, 0, 0⟩ room []) (hR : RDiskAt w3 g2 g2 ⟨false, false, 0, 0⟩ room (.slice none 0 0) []) (hb : Below w2.heap.size w2 w3) (hg : w2.heap.size ≤ g2) :
  KS w3 lo (lo + 1) lo g2 ⟨⟨false, false, 0, 0⟩, room, []⟩ ⟨⟨false, false, 0, 0⟩, room, []⟩ (fun _ => False) := by
 have h1 := hD.lt (lo + 1) (.inl rfl)
 refine ⟨[], .slice none 0 0, [], hD.below hb, rfl, ⟨hR.blk, World.ownsRow_nil _ _ _ _, (fun q hq => by cases hq), (fun q hq => by cases hq), List.Pairwise.nil, by omega, hR.num⟩, rfl, fun k hk hk2 => ?_, fun _ _ h => h⟩
 rcases hk2 with rfl | hk2 | ⟨q, hq, _⟩
 ·rcases hk with h | h | ⟨q, hq, _⟩
  ·omega
  ·omega
  ·cases hq
 ·cases hk2
 ·cases hq
theorem play_start (room : Int) : PlayOk 0 ⟨⟨false, false, 0, 0⟩, room, []⟩ := ⟨⟨by simp [sizes], by simp, fun q hq => by cases hq⟩, by simp [sizes]⟩
set_option maxHeartbeats 4000000 in
set_option maxRecDepth 100000 in
theorem keepPlays_any (room : Int) (hroom : -9223372036854775808 ≤ room ∧ room ≤ 9223372036854775807) (A : Option Addr) (acs : List ActD) (c : Nat) (w : World) (hr : Rd w w.heap.size A (acs.flatMap ActD.cs)) (hs : ∀ a ∈ acs, a.Ok w w.heap.size) (hF : Facts w) (hA : 0 < acs.length → ∀ ad, A = some ad → ad = ⟨ad.block, ad.off, none⟩) (hsl : acs.length ≤ 4611686018427387904) :
  Calls Tryz.prog 4 #[.int .i64 room, .slice A acs.length c] w fun e w' => e = .returned (.bool true) ∧ Below w.heap.size w w' := by
 have HR := Lib.hid hr
 have HS := Lib.hid hs
 have HFA := Lib.hid hF
 have HSM := Lib.hid (keepSmall w)
 have HA := Lib.hid hA
 have HRM := Lib.hid hroom
 clear hr hs hF hA hroom
 go_enter Tryz.func4, Tryz.ntmps4
 go_wp2_with fail
 refine HSM.out.mono ?_
 rintro e w1 ⟨rfl, hb1⟩
 have hs1 := hb1.size
 have HB1 := Lib.hid hb1
 clear hb1 HSM
 go_wp2_with fail
 refine (dnew_any room HRM.out w1).mono ?_
 rintro e w2 ⟨rfl, hD, hb2⟩
 have HB2 := Lib.hid (HB1.out.trans (hb2.mono hs1))
 have HD := Lib.hid hD
 have hs2 := HB2.out.size
 have h12 := hb2.size
 clear hb2 hD
 go_wp2_with fail
 refine (rnew_any room HRM.out w2).mono ?_
 rintro e w3 ⟨rfl, hRD, hb3⟩
 have HB3 := Lib.hid (HB2.out.trans (hb3.mono hs2))
 have HKS := Lib.hid (ks_start HD.out hRD hb3 (Nat.le_refl _))
 obtain ⟨lo, hlo⟩ : ∃ lo, lo = w1.heap.size := ⟨_, rfl⟩
 obtain ⟨g2, hg2⟩ : ∃ g2, g2 = w2.heap.size := ⟨_, rfl⟩
 rw [← hlo, ← hg2] at HKS ⊢
 have hlow : w.heap.size ≤ lo := by omega
 clear hRD hb3 HD hlo hg2 HB2 HB1 hs1 hs2 h12 HRM
 go_wp2_with fail
 go_loopw [8, 9] (fun n _ wr => ∃ (k : Nat), k ≤ acs.length ∧ n = .int .i64 k ∧ k ≤ 60 ∧ Hid (∃ d, KS wr lo (lo + 1) lo g2 d d (fun _ => False) ∧ PlayOk k d) ∧ Hid (Below w.heap.size w wr)) (fun n _ _ => acs.length - (intOf n).toNat)
 case atStart => exact ⟨0, by omega, rfl, by omega, Lib.hid ⟨_, HKS.out, play_start _⟩, HB3⟩
 case round =>
  obtain ⟨k, hk, rfl, hk60, HK, HBW⟩ := hrel
  by_cases hlt : k < acs.length
  ·by_cases h60 : k < 60
   ·have hso := HS.out _ (List.getElem_mem hlt)
    have hrw := HR.out.below HBW.out
    obtain ⟨ad, rfl, hab, hce⟩ := hrw (by rw [acs_len]; omega)
    have hsp := HA.out (by omega) ad rfl
    have hq : ∀ j, (hj : j < 10) → wr.cell? (ad.add (k * 10 + j)) = (acs[k].cs)[j]? := fun j hj => by
     obtain ⟨u, hu⟩ : ∃ u, (acs[k].cs)[j]? = some u := ⟨_, List.getElem?_eq_getElem (show j < (acs[k].cs).length from hj)⟩
     rw [hu]
     exact hce _ _ (by rw [acs_at acs hlt hj]; exact hu)
    obtain ⟨a, hak⟩ : ∃ a, a = acs[k] := ⟨_, rfl⟩
    rw [← hak] at hq hso
    obtain ⟨ab, ao, af⟩ := ad
    simp only at hsp
    obtain rfl : af = none := by injection hsp
    have hadd : ∀ j : Nat, (⟨ab, ao, none⟩ : Addr).add j = ⟨ab, ao + j, none⟩ := fun j => by
     unfold Addr.add
     by_cases h : j = 0
     ·subst h; rfl
     ·simp [h]
    have q0 := hq 0 (by omega)
    have q1 := hq 1 (by omega)
    have q2 := hq 2 (by omega)
    have q3 := hq 3 (by omega)
    have q4 := hq 4 (by omega)
    have q5 := hq 5 (by omega)
    have q6 := hq 6 (by omega)
    have q7 := hq 7 (by omega)
    have q8 := hq 8 (by omega)
    have q9 := hq 9 (by omega)
    rw [hadd] at q0 q1 q2 q3 q4 q5 q6 q7 q8 q9
    rw [← Nat.add_assoc] at q0 q1 q2 q3 q4 q5 q6 q7 q8 q9
    rw [Nat.add_zero] at q0
    change wr.cell? ⟨ab, ao + k * 10, none⟩ = some (.int .i64 a.o) at q0
    change wr.cell? ⟨ab, ao + k * 10 + 1, none⟩ = some (.int .i64 a.n) at q1
    change wr.cell? ⟨ab, ao + k * 10 + 2, none⟩ = some (.int .i64 a.m) at q2
    change wr.cell? ⟨ab, ao + k * 10 + 3, none⟩ = some (.int .i64 a.s.i) at q3
    change wr.cell? ⟨ab, ao + k * 10 + 4, none⟩ = some (.int .i64 a.s.t) at q4
    change wr.cell? ⟨ab, ao + k * 10 + 5, none⟩ = some (.slice a.s.Av a.s.z.length a.s.cv) at q5
    change wr.cell? ⟨ab, ao + k * 10 + 6, none⟩ = some (.slice a.s.Ad a.s.l.length a.s.cd) at q6
    change wr.cell? ⟨ab, ao + k * 10 + 7, none⟩ = some (.slice a.Ak a.kz.length a.ck) at q7
    change wr.cell? ⟨ab, ao + k * 10 + 8, none⟩ = some (.string a.nm) at q8
    change wr.cell? ⟨ab, ao + k * 10 + 9, none⟩ = some (.slice a.Ab a.b.length a.cb) at q9
    have HSO := Lib.hid hso
    clear hadd hce hak hso hrw hsp hq
    by_cases hbig : (65536 : Int) < (a.s.l.length : Int)
    ·go_wp2_with fail
     go_ret
     exact ⟨rfl, HBW.out⟩
    ·by_cases hbig2 : (65536 : Int) < (a.b.length : Int)
     ·go_wp2_with fail
      go_ret
      exact ⟨rfl, HBW.out⟩
     ·obtain ⟨d, hKS, hP⟩ := HK.out
      have hwr := HBW.out.size
      have hac := kact_any a hKS hP h60 ((HSO.out.below HBW.out).more hlow) (fun W' hb => HFA.out.below (HBW.out.trans (hb.mono hlow))) (by omega) (by omega)
      unfold ActD.cs at hac
      have HAC := Lib.hid hac
      have HLO := Lib.hid hKS.size
      clear hac hKS hP HK
      go_wp2_with fail
      refine HAC.out.mono ?_
      rintro e w4 ⟨rfl, d', hKS4, hP4, hb4⟩
      have HK4 := Lib.hid (show ∃ d, KS w4 lo (lo + 1) lo g2 d d (fun _ => False) ∧ PlayOk (k + 1) d from ⟨d', hKS4, hP4⟩)
      have HB4 := Lib.hid (HBW.out.trans (hb4.mono hlow))
      clear hKS4 hP4 hb4 HAC q0 q1 q2 q3 q4 q5 q6 q7 q8 q9
      go_wp2_with fail
      go_roundw
      case rel => exact ⟨k + 1, by omega, by go_num, by omega, HK4, HB4⟩
      case measure => simp [intOf]; omega
   ·clear HK
    go_wp2_with fail
    go_ret
    exact ⟨rfl, HBW.out⟩
  ·clear HK
   go_wp2_with fail
   go_ret
   exact ⟨rfl, HBW.out⟩
end Go.Proofs.YteehkcpokgeipaaGreatDoor
set_option linter.unusedVariables false
namespace Go.Proofs.YteehkcpokgeipaaGreatDoor
open Go.ChangeShapes Go.WideShapes Go.ChangeAt Go.RowKit Go.Joins Go.Deep Oct
structure InActs (w : World) (A : Option Addr) (acs : List ActD) (c : Nat) : Prop where
 rd : Rd w w.heap.size A (acs.flatMap ActD.cs)
 ok : ∀ a ∈ acs, a.Ok w w.heap.size
 plain : 0 < acs.length → ∀ ad, A = some ad → ad = ⟨ad.block, ad.off, none⟩
 le : acs.length ≤ 4611686018427387904
def AcGood (w : World) (ad : Addr) (k : Nat) (a : ActD) : Prop :=
 (∀ j, (hj : j < 10) → w.cell? ((ad.add (k * 10)).add j) = a.cs[j]?) ∧ a.Ok w w.heap.size
def actOffs (P : Program) (fs : Array Field) : Bool := (fs.toList.map fun f => (f.offset, P.cellsOf f.type)) == [(0, 1), (1, 1), (2, 1), (3, 4), (7, 1), (8, 1), (9, 1)]
section
variable {H : Type} {enc : TypeId × Value → H} {P : Program} {W : World} {base : Nat}
theorem open_acts {t e ei q : TypeId} {f0 f1 f2 f3 f4 f5 f6 s0 s1 s2 s3 : Field} (ht : P.underlying t = some (.slice e)) (he : P.underlying e = some (.struct #[f0, f1, f2, f3, f4, f5, f6])) (hoff : actOffs P #[f0, f1, f2, f3, f4, f5, f6] = true) (hC : P.cellsOf e = 10) (be : P.bytesOf e = 152)
  (hs : P.underlying f3.type = some (.struct #[s0, s1, s2, s3])) (hone : oneCellFields P #[s0, s1, s2, s3] = true)
  (u0 : P.underlying f0.type = some (.int .i64)) (u1 : P.underlying f1.type = some (.int .i64)) (u2 : P.underlying f2.type = some (.int .i64))
  (v0 : P.underlying s0.type = some (.int .i64)) (v1 : P.underlying s1.type = some (.int .i64)) (v2 : P.underlying s2.type = some (.slice ei)) (ue : P.underlying ei = some (.int .i64)) (ce : P.cellsOf ei = 1) (bei : P.bytesOf ei = 8) (v3 : P.underlying s3.type = some (.slice q)) (uq : P.underlying q = some (.int .u8)) (cq : P.cellsOf q = 1) (bq : P.bytesOf q = 1)
  (u4 : P.underlying f4.type = some (.slice ei)) (u5 : P.underlying f5.type = some .string) (u6 : P.underlying f6.type = some (.slice q))
  {v : Value} {d : DataW H} {p : List MemPlace} (hv : Value.okWide P W .any base t v) (h : DataW.Trod enc P W 0 (fun _ => true) true t v d p) (hw : ∀ n ∈ d.weights P t, n ≤ reachBytes) :
  ∃ (A : Option Addr) (acs : List ActD) (c : Nat), v = .slice A acs.length c ∧ InActs W A acs c := by
 obtain ⟨A, len, cap, rfl⟩ := okWide_slice ht hv
 obtain ⟨fuel, hf⟩ := h
 rcases open_slice ht hf with ⟨hcs, hx⟩ | ⟨a, l, c, m, n, D, Pl, hcs, _, hl, hm, hmm, hx, hi⟩
 ·simp [Value.cells] at hcs
  obtain ⟨rfl, rfl, rfl⟩ := hcs
  exact ⟨none, [], 0, rfl, ⟨Rd.none_, (fun s hs => by cases hs), (fun h => absurd h (by simp)), by simp⟩⟩
 ·simp [Value.cells] at hcs
  obtain ⟨rfl, rfl, rfl⟩ := hcs
  simp only [if_true] at hmm
  subst hmm
  simp only [Prod.mk.injEq] at hx
  obtain ⟨rfl, rfl⟩ := hx
  have hcap : m * 152 ≤ 140737488351232 := by
   have := hw (((List.range len).length + (List.range (m - len)).length) * P.bytesOf e) (by simp [DataW.weights, ht])
   simp only [List.length_range, reachBytes, be] at this
   rw [show len + (m - len) = m by omega] at this
   omega
  simp [actOffs] at hoff
  obtain ⟨⟨a0, b0⟩, ⟨a1, b1⟩, ⟨a2, b2⟩, ⟨a3, b3⟩, ⟨a4, b4⟩, ⟨a5, b5⟩, ⟨a6, b6⟩⟩ := hoff
  obtain ⟨ss, hss, hgood⟩ := list_of (G := fun k s => AcGood W a k s) len (fun k hk => by
   obtain ⟨cs', hc, ht'⟩ := hi k (by omega)
   rw [hC] at hc
   obtain ⟨ys, n', _, hy, hlen, hyl, hfl⟩ := DataW.trod_struct he ht'
   obtain ⟨_, hcl, hat⟩ := World.cells?_some hc
   have hDw : ∀ x ∈ (D k).weights P e, x ≤ reachBytes := fun x hx => hw x (by
    simp only [DataW.weights, ht]
    exact List.mem_cons_of_mem _ (List.mem_append_left _ (weights_mem_all (List.mem_map.2 ⟨k, List.mem_range.2 hk, rfl⟩) hx)))
   simp only [Prod.mk.injEq] at hy
   match cs', hcl, ys, hyl with
   | [c0, c1, c2, c3, c4, c5, c6, c7, c8, c9], _, [y0, y1, y2, y3, y4, y5, y6], _ =>
    have t0 := hfl 0 f0 rfl
    have t1 := hfl 1 f1 rfl
    have t2 := hfl 2 f2 rfl
    have t3 := hfl 3 f3 rfl
    have t4 := hfl 4 f4 rfl
    have t5 := hfl 5 f5 rfl
    have t6 := hfl 6 f6 rfl
    simp [a0, b0] at t0
    simp [a1, b1] at t1
    simp [a2, b2] at t2
    simp [a3, b3] at t3
    simp [a4, b4] at t4
    simp [a5, b5] at t5
    simp [a6, b6] at t6
    have hWk : ∀ x, (x ∈ y0.1.weights P f0.type ∨ x ∈ y1.1.weights P f1.type ∨ x ∈ y2.1.weights P f2.type ∨ x ∈ y3.1.weights P f3.type ∨ x ∈ y4.1.weights P f4.type ∨ x ∈ y5.1.weights P f5.type ∨ x ∈ y6.1.weights P f6.type) → x ≤ reachBytes := fun x hx => hDw x (by
     rw [hy.1]
     simp only [DataW.weights, he, List.map_cons, List.map_nil, DataW.weightsEach, List.mem_append]
     rcases hx with h | h | h | h | h | h | h
     ·exact .inl h
     ·exact .inr (.inl h)
     ·exact .inr (.inr (.inl h))
     ·exact .inr (.inr (.inr (.inl h)))
     ·exact .inr (.inr (.inr (.inr (.inl h))))
     ·exact .inr (.inr (.inr (.inr (.inr (.inl h)))))
     ·exact .inr (.inr (.inr (.inr (.inr (.inr (.inl h))))))  )
    obtain ⟨o, rfl, hob⟩ := int_cell u0 t0
    obtain ⟨nn, rfl, hnb⟩ := int_cell u1 t1
    obtain ⟨mm, rfl, hmb⟩ := int_cell u2 t2
    obtain ⟨kA, kz, kc, rfl, hK⟩ := ints_cell u4 ue ce bei t4 (fun x hx => hWk x (.inr (.inr (.inr (.inr (.inl hx))))))
    obtain ⟨s, hs1, hs2, _⟩ := DataW.trod_string u5 t5
    simp at hs1
    subst hs1
    have hsl : s.size ≤ 140737488351232 := by
     have := hWk s.data.toList.length (.inr (.inr (.inr (.inr (.inr (.inl (by rw [hs2]; simp [DataW.weights])))))))
     simp only [reachBytes] at this
     simpa using this
    obtain ⟨bA, lb, bc, rfl, hB⟩ := bytes_cell u6 uq cq bq t6 (fun x hx => hWk x (.inr (.inr (.inr (.inr (.inr (.inr hx)))))))
    obtain ⟨zs, n2, _, hz, hlen2, hzl, hfz⟩ := DataW.trod_struct hs t3
    have hz3 : y3 = (.agg (zs.map (·.1)), zs.flatMap (·.2)) := hz
    obtain ⟨z0, z1, z2, z3, rfl⟩ : ∃ z0 z1 z2 z3, zs = [z0, z1, z2, z3] := by
     match zs, hzl with
     | [z0, z1, z2, z3], _ => exact ⟨_, _, _, _, rfl⟩
    obtain ⟨p0, k0⟩ := hone_of hone 0 s0 rfl
    obtain ⟨p1, k1⟩ := hone_of hone 1 s1 rfl
    obtain ⟨p2, k2⟩ := hone_of hone 2 s2 rfl
    obtain ⟨p3, k3⟩ := hone_of hone 3 s3 rfl
    have r0 := hfz 0 s0 rfl
    have r1 := hfz 1 s1 rfl
    have r2 := hfz 2 s2 rfl
    have r3 := hfz 3 s3 rfl
    simp [p0, k0] at r0
    simp [p1, k1] at r1
    simp [p2, k2] at r2
    simp [p3, k3] at r3
    obtain ⟨i, rfl, hib⟩ := int_cell v0 r0
    obtain ⟨tt, rfl, htb⟩ := int_cell v1 r1
    obtain ⟨V, z, cv, rfl, hV⟩ := ints_cell v2 ue ce bei r2 (fun x hx => hWk x (.inr (.inr (.inr (.inl (by
     rw [hz3]
     simp only [DataW.weights, hs, List.map_cons, List.map_nil, DataW.weightsEach, List.mem_append]
     exact .inr (.inr (.inl hx))))))))
    obtain ⟨B, ld, cb, rfl, hD⟩ := bytes_cell v3 uq cq bq r3 (fun x hx => hWk x (.inr (.inr (.inr (.inl (by
     rw [hz3]
     simp only [DataW.weights, hs, List.map_cons, List.map_nil, DataW.weightsEach, List.mem_append]
     exact .inr (.inr (.inr (.inl hx)))))))))
    refine ⟨⟨o, nn, mm, ⟨i, tt, V, z, cv, B, ld, cb⟩, kA, kz, kc, s, bA, lb, bc⟩, fun j hj => ?_, ⟨⟨hV.rd, hD.rd, hV.wf, ?_, ?_, hib⟩, ?_, hnb, hmb, hK.rd, hK.wf, ?_, hsl, hB.rd⟩⟩
    ·match j, hj with
     | 0, _ => exact hat 0 (by omega)
     | 1, _ => exact hat 1 (by omega)
     | 2, _ => exact hat 2 (by omega)
     | 3, _ => exact hat 3 (by omega)
     | 4, _ => exact hat 4 (by omega)
     | 5, _ => exact hat 5 (by omega)
     | 6, _ => exact hat 6 (by omega)
     | 7, _ => exact hat 7 (by omega)
     | 8, _ => exact hat 8 (by omega)
     | 9, _ => exact hat 9 (by omega)
    ·have h1 := hV.le
     have h2 := hV.cap
     show z.length ≤ _
     omega
    ·have h1 := hD.le
     have h2 := hD.cap
     show ld.length ≤ _
     omega
    ·have h1 := hV.le
     have h2 := hV.cap
     show z.length * 8 ≤ _
     omega
    ·have h1 := hK.le
     have h2 := hK.cap
     show kz.length ≤ _
     omega)
  have hadd : ∀ k j, (a.add (k * 10)).add j = a.add (k * 10 + j) := fun k j => by rw [Addr.add_add]
  refine ⟨some a, ss, m, by rw [hss], ⟨?_, fun s hs => ?_, fun h0 ad had => ?_, by omega⟩⟩
  ·intro h0
   rw [acs_len] at h0
   have h1 := (hgood 0 (by omega)).1 0 (by omega)
   refine ⟨a, rfl, ?_, fun j u hu => ?_⟩
   ·have h2 := World.block_lt_of_cell? W _ h1
    rwa [block_of_add, block_of_add] at h2
   ·have hj : j < 10 * ss.length := by
     have := (List.getElem?_eq_some_iff.1 hu).1
     rwa [acs_len] at this
    have e : j = j / 10 * 10 + j % 10 := by omega
    rw [e, acs_at ss (by omega) (by omega)] at hu
    rw [e, ← hadd, (hgood (j / 10) (by omega)).1 (j % 10) (by omega), hu]
  ·obtain ⟨k, hk, rfl⟩ := List.getElem_of_mem hs
   exact (hgood k hk).2
  ·injection had with had
   subst had
   have h1 := (hgood 0 h0).1 0 (by omega)
   have h2 := plain_of_cell h1
   exact h2
end
end Go.Proofs.YteehkcpokgeipaaGreatDoor
namespace Go.Proofs.YteehkcpokgeipaaGreatDoor
open Go.RowKit Oct
theorem keepPlays_facts (W : World) (h : laidMet Tryz.prog Rows.keepPlaysRow.laid W) : Facts W := facts_of h
theorem keepPlays_walk (w : World) (ht : Facts w) (room : Int) (hroom : -9223372036854775808 ≤ room ∧ room ≤ 9223372036854775807) (A : Option Addr) (acs : List ActD) (c : Nat) (g : InActs w A acs c) :
  Calls Tryz.prog 4 #[.int .i64 room, .slice A acs.length c] w fun e w' => e = .returned (.bool true) ∧ Below w.heap.size w w' :=
 keepPlays_any room hroom A acs c w g.rd g.ok ht g.plain g.le
end Go.Proofs.YteehkcpokgeipaaGreatDoor
