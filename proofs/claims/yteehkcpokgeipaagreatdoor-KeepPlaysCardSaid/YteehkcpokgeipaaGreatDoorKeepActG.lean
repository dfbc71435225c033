/- pavanelaw23.act: Cut; Remove. Condition: the disks within bounds. -/
import Derived.Test.YteehkcpokgeipaaGreatDoorKeepKW
import Derived.Test.YteehkcpokgeipaaGreatDoorKeepTwo
set_option linter.unusedVariables false
set_option linter.unusedSimpArgs false
namespace Go.Proofs.YteehkcpokgeipaaGreatDoor
open Go.RowKit Go.Maps Go.Sort Oct
structure ActD where
 o : Int
 n : Int
 m : Int
 s : SnapD
 Ak : Option Addr
 kz : List Int
 ck : Nat
 nm : ByteArray
 Ab : Option Addr
 b : List UInt8
 cb : Nat
def ActD.cs (a : ActD) : List Value := [.int .i64 a.o, .int .i64 a.n, .int .i64 a.m, .int .i64 a.s.i, .int .i64 a.s.t, .slice a.s.Av a.s.z.length a.s.cv, .slice a.s.Ad a.s.l.length a.s.cd, .slice a.Ak a.kz.length a.ck, .string a.nm, .slice a.Ab a.b.length a.cb]
structure ActD.Ok (w : World) (B : Nat) (a : ActD) : Prop where
 s : a.s.Ok w B
 z8 : a.s.z.length * 8 ≤ 140737488351232
 n : -9223372036854775808 ≤ a.n ∧ a.n ≤ 9223372036854775807
 m : -9223372036854775808 ≤ a.m ∧ a.m ≤ 9223372036854775807
 k : Rd w B a.Ak (a.kz.map (Value.int .i64))
 kb : ∀ n ∈ a.kz, -9223372036854775808 ≤ n ∧ n ≤ 9223372036854775807
 kl : a.kz.length ≤ 140737488351232
 nl : a.nm.size ≤ 140737488351232
 b : Rd w B a.Ab (cells a.b)
theorem SnapD.Ok.below {w w' : World} {B : Nat} {s : SnapD} (h : s.Ok w B) (hb : Below B w w') : s.Ok w' B := ⟨h.v.below hb, h.d.below hb, h.z, h.zl, h.dl, h.i⟩
theorem ActD.Ok.below {w w' : World} {B : Nat} {a : ActD} (h : a.Ok w B) (hb : Below B w w') : a.Ok w' B := ⟨h.s.below hb, h.z8, h.n, h.m, h.k.below hb, h.kb, h.kl, h.nl, h.b.below hb⟩
def ActTo (W : World) (lo g m g2 k : Nat) (w' : World) : Prop := ∃ d', KS w' lo g m g2 d' d' (fun _ => False) ∧ PlayOk (k + 1) d' ∧ Below lo W w'
theorem blk10_cells {w : World} {g : Nat} {t : TypeId} {c0 c1 c2 c3 c4 c5 c6 c7 c8 c9 : Value} (h : Blk w g t #[c0, c1, c2, c3, c4, c5, c6, c7, c8, c9]) : w.cell? ⟨g, 0, none⟩ = some c0 ∧ w.cell? ⟨g, 1, none⟩ = some c1 ∧ w.cell? ⟨g, 2, none⟩ = some c2 ∧ w.cell? ⟨g, 3, none⟩ = some c3 ∧ w.cell? ⟨g, 4, none⟩ = some c4 ∧ w.cell? ⟨g, 5, none⟩ = some c5 ∧ w.cell? ⟨g, 6, none⟩ = some c6 ∧ w.cell? ⟨g, 7, none⟩ = some c7 ∧ w.cell? ⟨g, 8, none⟩ = some c8 ∧ w.cell? ⟨g, 9, none⟩ = some c9 :=
 ⟨h.cell 0, h.cell 1, h.cell 2, h.cell 3, h.cell 4, h.cell 5, h.cell 6, h.cell 7, h.cell 8, h.cell 9⟩
section
variable {W : World} {lo g m g2 : Nat} {d d2 : DkD} {H : Nat → Prop} {k : Nat}
theorem kp_files (h : KS W lo g m g2 d d2 H) (hP : PlayOk k d) (hk : k ≤ 60) :
  Calls Tryz.prog 46 #[.pointer (some ⟨g, 0, none⟩)] W fun e w' => ∃ A rs c, e = .returned (.slice A (rs : List (Nm × RF)).length c) ∧ FRd w' A rs ∧ sec RF.f rs = d.fs ∧ Below W.heap.size W w' := by
 obtain ⟨es, hD, hf, hgo⟩ := h.left
 refine (files_any hD (by have := hP.ok.len; rw [fe_len hf]; omega) (fun q hq => by have := hP.mem hk (fe_mem hf hq); simp only at this; omega) (fun q hq => by have := (hP.ok.nm _ (fe_mem hf hq)).2; simp only at this; omega)).mono fun e w' ⟨v, rs, h1, h2, h3, h4, h5⟩ => ?_
 obtain ⟨A, c, e1, h6⟩ := rrow_frd h2 h3
 exact ⟨A, rs, c, by rw [h1, e1], h6, h4.trans hf, h5⟩
theorem ks_row (h : KS W lo g m g2 d d2 H) : ∃ A rs c, W.cell? ⟨g2, 0, none⟩ = some (.slice A (rs : List (Nm × RF)).length c) ∧ FRd W A rs ∧ sec RF.f rs = d2.fs ∧ g2 < W.heap.size := by
 obtain ⟨vL, rs, hD, hf, hgo⟩ := h.right
 obtain ⟨A, c, hv, _, _, _⟩ := hD.shape
 obtain ⟨x, y, hb, _⟩ := hD.blk
 have h1 := hb.cell 0
 subst hv
 exact ⟨A, rs, c, h1, (hD.frd).2, hf, hD.glt⟩
theorem kr_same (A B : Option Addr) {rs rs2 : List (Nm × RF)} (c c2 : Nat) (hP : PlayOk k d) (hk : k ≤ 60) (ha : FRd W A rs) (hb : FRd W B rs2) (h1 : sec RF.f rs = d.fs) (h2 : sec RF.f rs2 = d.fs) :
  Calls Tryz.prog 45 #[.slice A rs.length c, .slice B rs2.length c2] W fun e w' => e = .returned (.bool true) ∧ Below W.heap.size W w' :=
 rsame_any A B rs rs2 c c2 W ha hb (h1.trans h2.symm) (by have := hP.ok.len; rw [rf_len h1]; omega) (fun q hq => by have := hP.mem hk (rf_mem h1 hq); simp only at this; omega)
end
section
variable {P : Program} {md : Region.Mode} {Q : Exit → Act → World → Prop} {S : World → Prop} {l : List Oper}
theorem held_two (i j : Nat) {fuel : Nat} {listed : Array Bool} {a : Act} {w : World} (hi : i < l.length) (hj : j < l.length) (hr : Region.ready md l.toArray listed = [i, j])
  (h1 : ∀ K' : Act → World → Prop, Shut (∀ a w, S w → (S w → wpAnyH P md l.toArray Q S fuel (listed.setIfInBounds i true) a w) → K' a w) → if Region.wanted l[i] (yielded l.toArray a.tmps) = true then Oper.wp P l[i] a w K' Q else K' (a.put l[i].dst undef) w)
  (h2 : ∀ K' : Act → World → Prop, Shut (∀ a w, S w → (S w → wpAnyH P md l.toArray Q S fuel (listed.setIfInBounds j true) a w) → K' a w) → if Region.wanted l[j] (yielded l.toArray a.tmps) = true then Oper.wp P l[j] a w K' Q else K' (a.put l[j].dst undef) w) : wpAnyH P md l.toArray Q S (fuel + 1) listed a w :=
 wpAnyH_ready hr (by simp) (AllReadyH.cons (by rw [List.getElem?_toArray, List.getElem?_eq_getElem hi]) h1 (AllReadyH.cons (by rw [List.getElem?_toArray, List.getElem?_eq_getElem hj]) h2 AllReadyH.nil))
end
end Go.Proofs.YteehkcpokgeipaaGreatDoor
set_option linter.unusedVariables false
set_option linter.unusedSimpArgs false
namespace Go.Proofs.YteehkcpokgeipaaGreatDoor
open Go.RowKit Go.Maps Go.Sort Oct
theorem sZ_len (o : Option (List UInt8)) : (sZ o).length ≤ 64 := by
 cases o with
 | none => simp [sZ]
 | some b =>
  show (oZ b).length ≤ 64
  unfold oZ
  split
  ·rename_i h
   unfold readB at h
   simp only [Bool.and_eq_true] at h
   exact (may_len h.2).1
  ·simp
set_option maxHeartbeats 8000000 in
set_option maxRecDepth 100000 in
theorem kact1_any {W : World} {lo g m g2 k : Nat} {d : DkD} (a : ActD) (hS : KS W lo g m g2 d d (fun _ => False)) (hP : PlayOk k d) (hk : k < 60) (hA : a.Ok W lo) (hF : ∀ W', Below lo W W' → Facts W') (ho : a.o = 1) (hdl : a.s.l.length ≤ 65536) (hbl : a.b.length ≤ 65536) :
  Calls Tryz.prog 10 #[.pointer (some ⟨g, 0, none⟩), .pointer (some ⟨g2, 0, none⟩), .agg a.cs.toArray] W fun e w' => e = .returned (.bool true) ∧ ActTo W lo g m g2 k w' := by
 have hlo := hS.size
 unfold ActD.cs
 obtain ⟨o, n, mm, ⟨i, t, Av, z, cv, Ad, l, cd⟩, Ak, kz, ck, nm, Ab, b, cb⟩ := a
 simp only at ho hdl hbl hA ⊢
 subst ho
 obtain ⟨hs, hz8, hn, hm, hkd, hkb, hkl, hnl, hb⟩ := hA
 obtain ⟨hsv, hsd, hsz, hszl, hsdl, hsi⟩ := hs
 simp only at hz8 hn hm hkd hkb hkl hnl hb hsv hsd hsz hszl hsdl hsi
 obtain ⟨wA, hwA⟩ : ∃ wA, wA = W.alloc (.cells #[.int .i64 1, .int .i64 n, .int .i64 mm, .int .i64 i, .int .i64 t, .slice Av z.length cv, .slice Ad l.length cd, .slice Ak kz.length ck, .string nm, .slice Ab b.length cb] 39) := ⟨_, rfl⟩
 have hbA : Below W.heap.size W wA := by rw [hwA]; exact (Below.refl _ W).alloc (Nat.le_refl _) _
 have hKA : Blk wA W.heap.size 39 #[.int .i64 1, .int .i64 n, .int .i64 mm, .int .i64 i, .int .i64 t, .slice Av z.length cv, .slice Ad l.length cd, .slice Ak kz.length ck, .string nm, .slice Ab b.length cb] := by rw [hwA]; exact Blk.new W 39 _
 have hsA : W.heap.size < wA.heap.size := hKA.lt
 have HSA := Lib.hid (hS.fresh hbA)
 have HBA := Lib.hid (hbA.mono hlo)
 have HBW := Lib.hid hbA
 have HKA := Lib.hid hKA
 have HWA := Lib.hid hwA
 have HP := Lib.hid hP
 have HF := Lib.hid hF
 have HSV := Lib.hid hsv
 have HSD := Lib.hid hsd
 have HSZ := Lib.hid hsz
 have HKD := Lib.hid hkd
 have HKB := Lib.hid hkb
 have HRB := Lib.hid hb
 have HS0 := Lib.hid hS
 have HSI := Lib.hid hsi
 have HN := Lib.hid hn
 have HM := Lib.hid hm
 obtain ⟨k0, k1, k2, k3, k4, k5, k6, k7, k8, k9⟩ := blk10_cells hKA
 clear hwA hbA hP hF hsv hsd hsz hkd hkb hb hS hsi hn hm
 go_enter Tryz.func10, Tryz.ntmps10
 go_upto_region 10 with (fail)
 rw [← HWA.out]
 have hLD := kp_load HSA.out HP.out (by omega) (HF.out wA HBA.out)
 have hzl := sZ_len (loadO d)
 obtain ⟨I, hI⟩ : ∃ I, I = sI (loadO d) := ⟨_, rfl⟩
 obtain ⟨T, hT⟩ : ∃ T, T = sT (loadO d) := ⟨_, rfl⟩
 obtain ⟨Z, hZ⟩ : ∃ Z, Z = sZ (loadO d) := ⟨_, rfl⟩
 obtain ⟨D, hD⟩ : ∃ D, D = sD (loadO d) := ⟨_, rfl⟩
 obtain ⟨IS, hIS⟩ : ∃ IS, IS = (loadO d).isSome := ⟨_, rfl⟩
 obtain ⟨LE, hLE⟩ : ∃ LE, LE = loadE d := ⟨_, rfl⟩
 have hLR := fun (W' : World) (hb : Below wA.heap.size wA W') => kr_load (HSA.out.below hb) HP.out (by omega)
 rw [← hZ] at hzl
 simp only [← hI, ← hT, ← hZ, ← hD, ← hIS, ← hLE] at hLD hLR
 have HLD := Lib.hid hLD
 have HLR := Lib.hid hLR
 clear hLD hLR hI hT hZ hD hIS hLE k0 k1 k2 k3 k4 k5 k6 k7 k8 k9
 go_wp2_with fail
 refine HLD.out.mono ?_
 rintro e w1 ⟨V, rfl, ⟨xx, yy, rfl, hx1, hy1, hap1⟩, hb1⟩
 obtain ⟨Ax, cx, rfl, hcx, hcx2, _⟩ := is_shape hx1
 obtain ⟨Ay, cy, rfl, hcy, hcy2, _⟩ := bs_shape hy1
 have hs1 := hb1.size
 obtain ⟨w2, hw2⟩ : ∃ w2, w2 = w1.alloc (.cells #[.int .i64 I, .int .i64 T, .slice Ax Z.length cx, .slice Ay D.length cy] 29) := ⟨_, rfl⟩
 have hb2 : Below w1.heap.size w1 w2 := by rw [hw2]; exact (Below.refl _ w1).alloc (Nat.le_refl _) _
 have hK2 : Blk w2 w1.heap.size 29 #[.int .i64 I, .int .i64 T, .slice Ax Z.length cx, .slice Ay D.length cy] := by rw [hw2]; exact Blk.new w1 29 _
 have HB2 := Lib.hid (hb1.trans (hb2.mono hs1))
 have hs2 := hb2.size
 have HX2 := Lib.hid (Own.below hx1 hb2 (Nat.le_refl _))
 have HY2 := Lib.hid (Own.below hy1 hb2 (Nat.le_refl _))
 have HXL := Lib.hid (Own.lt hx1)
 have HYL := Lib.hid (Own.lt hy1)
 have HAP := Lib.hid hap1
 have HK2 := Lib.hid hK2
 have HW2 := Lib.hid hw2
 have hlt2 : w1.heap.size < w2.heap.size := hK2.lt
 clear hx1 hy1 hap1 hb1 hb2 hK2 hw2 HLD
 go_upto_region 11 with (fail)
 rw [← HW2.out]
 go_wp2_with fail
 refine (HLR.out w2 HB2.out).mono ?_
 rintro e w3 ⟨V2, rfl, ⟨xx2, yy2, rfl, hx3, hy3, hap3⟩, hb3⟩
 obtain ⟨Bx, dx, rfl, _, _, _⟩ := is_shape hx3
 obtain ⟨By, dy, rfl, _, _, _⟩ := bs_shape hy3
 have hs3 := hb3.size
 obtain ⟨w4, hw4⟩ : ∃ w4, w4 = w3.alloc (.cells #[.int .i64 I, .int .i64 T, .slice Bx Z.length dx, .slice By D.length dy] 29) := ⟨_, rfl⟩
 have hb4 : Below w3.heap.size w3 w4 := by rw [hw4]; exact (Below.refl _ w3).alloc (Nat.le_refl _) _
 have hK4 : Blk w4 w3.heap.size 29 #[.int .i64 I, .int .i64 T, .slice Bx Z.length dx, .slice By D.length dy] := by rw [hw4]; exact Blk.new w3 29 _
 have hb24 := hb3.trans (hb4.mono hs3)
 have HB4 := Lib.hid (HB2.out.trans (hb24.mono (by omega)))
 have HX4 := Lib.hid (Own.below HX2.out hb24 (Nat.le_refl _))
 have HY4 := Lib.hid (Own.below HY2.out hb24 (Nat.le_refl _))
 have HX5 := Lib.hid (own_rd (Own.below hx3 hb4 (Nat.le_refl _)))
 have HY5 := Lib.hid (own_rd (Own.below hy3 hb4 (Nat.le_refl _)))
 have HKS := Lib.hid (HK2.out.below hb24 (by omega))
 have HK4 := Lib.hid hK4
 have HW4 := Lib.hid hw4
 have hs4 := hb4.size
 clear hx3 hy3 hap3 hb3 hb4 hK4 hw4 hb24 HLR HX2 HY2 HK2
 go_upto_region 12 with (fail)
 rw [← HW4.out]
 have hsame := snapSame_any I T Z D Ax Ay Bx By Z.length cx D.length cy Z.length dx D.length dy w4.heap.size rfl rfl rfl rfl w4 (Nat.le_refl _) (own_rd HX4.out) (own_rd HY4.out) HX5.out HY5.out (by omega)
 unfold snapV at hsame
 have HSM := Lib.hid hsame
 obtain ⟨q0, q1, q2, q3, _, _, _, _⟩ := blk4_cells HKS.out
 obtain ⟨p0, p1, p2, p3, _, _, _, _⟩ := blk4_cells HK4.out
 clear hsame HX5 HY5
 go_wp2_with fail
 refine HSM.out.mono ?_
 rintro e w5 ⟨rfl, hb5⟩
 have HB5' := Lib.hid (HB4.out.trans (hb5.mono (by omega)))
 have hX5 := Own.below HX4.out hb5 (Nat.le_refl _)
 have hY5 := Own.below HY4.out hb5 (Nat.le_refl _)
 have hs5 := hb5.size
 have HKS5 := Lib.hid (HKS.out.below hb5 (by omega))
 obtain ⟨Ax', cx', cur, hv', hcc, hbl, -⟩ := IBlk.of_own hX5
 injection hv' with e1 e2 e3
 subst e1; subst e3
 have HOV := Lib.hid (over_any I T Ax Z.length cx cur Ay D.length cy w5 wA.heap.size hbl hcx hcc (RowOk.of_own hY5) HAP.out)
 obtain ⟨r0, r1, r2, r3, _, _, _, _⟩ := blk4_cells HKS5.out
 clear e2 hX5 hY5 hbl hcc hb5 HSM q0 q1 q2 q3 p0 p1 p2 p3
 go_wp2_with fail
 refine HOV.out.mono ?_
 rintro e w6 ⟨rfl, hbut⟩
 have HKS6 := Lib.hid ((HS0.out.fresh (HBW.out.trans (HB5'.out.mono (Nat.le_of_lt hsA)))).keep hbut.size (fun q h1 h2 h3 => hbut.block q h2 (fun e => h3 ⟨by have := HXL.out q e; omega, h2⟩) (fun e => h3 ⟨by have := HYL.out q e; omega, h2⟩)))
 have HB6' := Lib.hid ((HBA.out.trans (HB5'.out.mono (by omega))).trans (hbut.below (base := lo) (by omega) (fun q e => by have := HXL.out q e; omega) (fun q e => by have := HYL.out q e; omega)))
 clear hbut HOV r0 r1 r2 r3
 have HS5 := Lib.hid (KS.free HKS6.out)
 have HP5 := Lib.hid (HP.out.mono (k' := k + 1) (by omega))
 have HB5 := Lib.hid HB6'.out
 obtain ⟨B, rs2, c2, cB, hFB, hfB, hgB⟩ := ks_row HS5.out
 have HFB := Lib.hid hFB
 have HfB := Lib.hid hfB
 have HFI := Lib.hid (kp_files (HS5.out.below ((Below.refl _ _).drew)) HP5.out (by omega))
 clear hFB hfB 
 go_wp2_with fail
 refine wp_region_held_drew (by kernel_rfl) (S := fun W => W.cell? ⟨g2, 0, none⟩ = some (.slice B rs2.length c2) ∧ True ∧ True ∧ True) ⟨cB, trivial, trivial, trivial⟩ (fun hHeld => ?_)
 refine held_take 0 (v := ?_) (by simp) (by kernel_rfl) (by kernel_rfl) (by kernel_rfl) (fun _ _ _ h => h) (Or.inl ⟨by rfl, ?_⟩) hHeld ?_
 case refine_2 => (intro w hSw; (try dsimp only at hSw); (try (obtain ⟨s0, s1, s2, s3⟩ := hSw)); simp only [List.getElem_cons_zero]; go_simp <;> with_reducible rfl)
 simp only [List.getElem_cons_zero, Act.put, List.setIfInBounds_toArray, List.set_cons_zero, List.set_cons_succ]
 refine held_take 1 (v := ?_) (by simp) (by kernel_rfl) (by kernel_rfl) (by kernel_rfl) (fun _ _ _ h => h) (Or.inl ⟨by rfl, ?_⟩) hHeld ?_
 case refine_2 => (intro w hSw; (try dsimp only at hSw); (try (obtain ⟨s0, s1, s2, s3⟩ := hSw)); simp only [List.getElem_cons_zero, List.getElem_cons_succ]; go_simp <;> with_reducible rfl)
 simp only [List.getElem_cons_zero, List.getElem_cons_succ, Act.put, List.setIfInBounds_toArray, List.set_cons_zero, List.set_cons_succ]
 refine held_take 2 (v := ?_) (by simp) (by kernel_rfl) (by kernel_rfl) (by kernel_rfl) (fun _ _ _ h => h) (Or.inl ⟨by rfl, ?_⟩) hHeld ?_
 case refine_2 => (intro w hSw; (try dsimp only at hSw); (try (obtain ⟨s0, s1, s2, s3⟩ := hSw)); simp only [List.getElem_cons_zero, List.getElem_cons_succ]; go_simp <;> with_reducible rfl)
 simp only [List.getElem_cons_zero, List.getElem_cons_succ, Act.put, List.setIfInBounds_toArray, List.set_cons_zero, List.set_cons_succ]
 refine held_take 4 (v := ?_) (by simp) (by kernel_rfl) (by kernel_rfl) (by kernel_rfl) (fun _ _ _ h => h) (Or.inl ⟨by rfl, ?_⟩) hHeld ?_
 case refine_2 => (intro w hSw; (try dsimp only at hSw); (try (obtain ⟨s0, s1, s2, s3⟩ := hSw)); simp only [List.getElem_cons_zero, List.getElem_cons_succ]; go_simp <;> with_reducible rfl)
 simp only [List.getElem_cons_zero, List.getElem_cons_succ, Act.put, List.setIfInBounds_toArray, List.set_cons_zero, List.set_cons_succ]
 refine held_take 5 (v := ?_) (by simp) (by kernel_rfl) (by kernel_rfl) (by kernel_rfl) (fun _ _ _ h => h) (Or.inl ⟨by rfl, ?_⟩) hHeld ?_
 case refine_2 => (intro w hSw; (try dsimp only at hSw); (try (obtain ⟨s0, s1, s2, s3⟩ := hSw)); simp only [List.getElem_cons_zero, List.getElem_cons_succ]; go_simp <;> with_reducible rfl)
 simp only [List.getElem_cons_zero, List.getElem_cons_succ, Act.put, List.setIfInBounds_toArray, List.set_cons_zero, List.set_cons_succ]
 refine held_take 6 (v := ?_) (by simp) (by kernel_rfl) (by kernel_rfl) (by kernel_rfl) (fun _ _ _ h => h) (Or.inl ⟨by rfl, ?_⟩) hHeld ?_
 case refine_2 => (intro w hSw; (try dsimp only at hSw); (try (obtain ⟨s0, s1, s2, s3⟩ := hSw)); simp only [List.getElem_cons_zero, List.getElem_cons_succ]; go_simp <;> with_reducible rfl)
 simp only [List.getElem_cons_zero, List.getElem_cons_succ, Act.put, List.setIfInBounds_toArray, List.set_cons_zero, List.set_cons_succ]
 refine held_take 7 (v := ?_) (by simp) (by kernel_rfl) (by kernel_rfl) (by kernel_rfl) (fun _ _ _ h => h) (Or.inl ⟨by rfl, ?_⟩) hHeld ?_
 case refine_2 => (intro w hSw; (try dsimp only at hSw); (try (obtain ⟨s0, s1, s2, s3⟩ := hSw)); simp only [List.getElem_cons_zero, List.getElem_cons_succ]; go_simp <;> with_reducible rfl)
 simp only [List.getElem_cons_zero, List.getElem_cons_succ, Act.put, List.setIfInBounds_toArray, List.set_cons_zero, List.set_cons_succ]
 refine held_sole 3 (by simp) (by kernel_rfl) (fun K hK => ?_)
 simp only [List.getElem_cons_zero, List.getElem_cons_succ]
 go_simp
 refine HFI.out.mono ?_
 rintro e w6 ⟨A, rs, c, rfl, hFA, hfA, hb6⟩
 have HB6 := Lib.hid ((Below.refl _ _).drew.trans (show Below _ _ _ from hb6))
 have cB6 := (HB6.out.cell (p := ⟨g2, 0, none⟩) hgB).trans cB
 have HSM := Lib.hid (kr_same (W := w6) A B c c2 HP5.out (by omega) hFA (HFB.out.below HB6.out) hfA HfB.out)
 clear hFA hfA hb6 HFI
 go_wp2_with fail
 refine hK.out _ _ ⟨cB6, trivial, trivial, trivial⟩ (fun hHeld => ?_)
 clear hK K
 try simp only [Act.put, List.setIfInBounds_toArray, List.set_cons_zero, List.set_cons_succ]
 refine held_sole 8 (by simp) (by kernel_rfl) (fun K hK => ?_)
 simp only [List.getElem_cons_zero, List.getElem_cons_succ]
 go_simp
 refine HSM.out.mono ?_
 rintro e w7 ⟨rfl, hb7⟩
 have HB7 := Lib.hid (HB6.out.trans (hb7.mono HB6.out.size))
 have cB7 := (HB7.out.cell (p := ⟨g2, 0, none⟩) hgB).trans cB
 clear hb7 HSM
 go_wp2_with fail
 refine hK.out _ _ ⟨cB7, trivial, trivial, trivial⟩ (fun hHeld => ?_)
 clear hK K
 try simp only [Act.put, List.setIfInBounds_toArray, List.set_cons_zero, List.set_cons_succ]
 refine held_take 9 (v := ?_) (by simp) (by kernel_rfl) (by kernel_rfl) (by kernel_rfl) (fun _ _ _ h => h) (Or.inl ⟨by rfl, ?_⟩) hHeld ?_
 case refine_2 => (intro w hSw; (try dsimp only at hSw); (try (obtain ⟨s0, s1, s2, s3⟩ := hSw)); simp only [List.getElem_cons_zero, List.getElem_cons_succ]; go_simp <;> with_reducible rfl)
 simp only [List.getElem_cons_zero, List.getElem_cons_succ, Act.put, List.setIfInBounds_toArray, List.set_cons_zero, List.set_cons_succ]
 refine held_take 10 (v := ?_) (by simp) (by kernel_rfl) (by kernel_rfl) (by kernel_rfl) (fun _ _ _ h => h) (Or.inl ⟨by rfl, ?_⟩) hHeld ?_
 case refine_2 => (intro w hSw; (try dsimp only at hSw); (try (obtain ⟨s0, s1, s2, s3⟩ := hSw)); simp only [List.getElem_cons_zero, List.getElem_cons_succ]; go_simp <;> with_reducible rfl)
 simp only [List.getElem_cons_zero, List.getElem_cons_succ, Act.put, List.setIfInBounds_toArray, List.set_cons_zero, List.set_cons_succ]
 refine wpAnyH_done (by kernel_rfl) ?_ _
 clear hHeld cB cB6 cB7
 go_wp2_with fail
 go_ret
 exact ⟨rfl, _, HS5.out.below HB7.out, HP5.out, HB5.out.trans (HB7.out.mono HS5.out.size)⟩
end Go.Proofs.YteehkcpokgeipaaGreatDoor
set_option linter.unusedVariables false
set_option linter.unusedSimpArgs false
namespace Go.Proofs.YteehkcpokgeipaaGreatDoor
open Go.RowKit Go.Maps Go.Sort Oct
set_option maxHeartbeats 8000000 in
set_option maxRecDepth 100000 in
theorem kact5_any {W : World} {lo g m g2 k : Nat} {d : DkD} (a : ActD) (hS : KS W lo g m g2 d d (fun _ => False)) (hP : PlayOk k d) (hk : k < 60) (hA : a.Ok W lo) (hF : ∀ W', Below lo W W' → Facts W') (ho : a.o = 5) (hdl : a.s.l.length ≤ 65536) (hbl : a.b.length ≤ 65536) :
  Calls Tryz.prog 10 #[.pointer (some ⟨g, 0, none⟩), .pointer (some ⟨g2, 0, none⟩), .agg a.cs.toArray] W fun e w' => e = .returned (.bool true) ∧ ActTo W lo g m g2 k w' := by
 have hlo := hS.size
 unfold ActD.cs
 obtain ⟨o, n, mm, ⟨i, t, Av, z, cv, Ad, l, cd⟩, Ak, kz, ck, nm, Ab, b, cb⟩ := a
 simp only at ho hdl hbl hA ⊢
 subst ho
 obtain ⟨hs, hz8, hn, hm, hkd, hkb, hkl, hnl, hb⟩ := hA
 obtain ⟨hsv, hsd, hsz, hszl, hsdl, hsi⟩ := hs
 simp only at hz8 hn hm hkd hkb hkl hnl hb hsv hsd hsz hszl hsdl hsi
 obtain ⟨wA, hwA⟩ : ∃ wA, wA = W.alloc (.cells #[.int .i64 5, .int .i64 n, .int .i64 mm, .int .i64 i, .int .i64 t, .slice Av z.length cv, .slice Ad l.length cd, .slice Ak kz.length ck, .string nm, .slice Ab b.length cb] 39) := ⟨_, rfl⟩
 have hbA : Below W.heap.size W wA := by rw [hwA]; exact (Below.refl _ W).alloc (Nat.le_refl _) _
 have hKA : Blk wA W.heap.size 39 #[.int .i64 5, .int .i64 n, .int .i64 mm, .int .i64 i, .int .i64 t, .slice Av z.length cv, .slice Ad l.length cd, .slice Ak kz.length ck, .string nm, .slice Ab b.length cb] := by rw [hwA]; exact Blk.new W 39 _
 have hsA : W.heap.size < wA.heap.size := hKA.lt
 have HSA := Lib.hid (hS.fresh hbA)
 have HBA := Lib.hid (hbA.mono hlo)
 have HBW := Lib.hid hbA
 have HKA := Lib.hid hKA
 have HWA := Lib.hid hwA
 have HP := Lib.hid hP
 have HF := Lib.hid hF
 have HSV := Lib.hid hsv
 have HSD := Lib.hid hsd
 have HSZ := Lib.hid hsz
 have HKD := Lib.hid hkd
 have HKB := Lib.hid hkb
 have HRB := Lib.hid hb
 have HS0 := Lib.hid hS
 have HSI := Lib.hid hsi
 have HN := Lib.hid hn
 have HM := Lib.hid hm
 obtain ⟨k0, k1, k2, k3, k4, k5, k6, k7, k8, k9⟩ := blk10_cells hKA
 clear hwA hbA hP hF hsv hsd hsz hkd hkb hb hS hsi hn hm
 go_enter Tryz.func10, Tryz.ntmps10
 go_upto_region 24 with (fail)
 rw [← HWA.out]
 have hAR := kp_cut (W := wA.drew) (H := (fun q => W.heap.size ≤ q ∧ q < wA.heap.size)) (HSA.out.below ((Below.refl _ _).drew)) (fun q h => h.2) nm hnl n HN.out
 obtain ⟨RR, hRR⟩ : ∃ RR, RR = d.cutF nm.data.toList n := ⟨_, rfl⟩
 rw [← hRR] at hAR
 have HAR := Lib.hid hAR
 have HRR := Lib.hid hRR
 clear k0 k2 k3 k4 k5 k6 k7 k9 hAR hRR
 refine wp_region_held_drew (by kernel_rfl) (S := fun W' => W'.cell? ⟨W.heap.size, 1, none⟩ = some (.int .i64 n) ∧ W'.cell? ⟨W.heap.size, 8, none⟩ = some (.string nm) ∧ True ∧ True) ⟨k1, k8, trivial, trivial⟩ (fun hHeld => ?_)
 refine held_take 0 (v := ?_) (by simp) (by kernel_rfl) (by kernel_rfl) (by kernel_rfl) (fun _ _ _ h => h) (Or.inl ⟨by rfl, ?_⟩) hHeld ?_
 case refine_2 => (intro w hSw; (try dsimp only at hSw); (try (obtain ⟨s0, s1, s2, s3⟩ := hSw)); simp only [List.getElem_cons_zero]; go_simp <;> with_reducible rfl)
 simp only [List.getElem_cons_zero, Act.put, List.setIfInBounds_toArray, List.set_cons_zero, List.set_cons_succ]
 refine held_take 1 (v := ?_) (by simp) (by kernel_rfl) (by kernel_rfl) (by kernel_rfl) (fun _ _ _ h => h) (Or.inl ⟨by rfl, ?_⟩) hHeld ?_
 case refine_2 => (intro w hSw; (try dsimp only at hSw); (try (obtain ⟨s0, s1, s2, s3⟩ := hSw)); simp only [List.getElem_cons_zero, List.getElem_cons_succ]; go_simp <;> with_reducible rfl)
 simp only [List.getElem_cons_zero, List.getElem_cons_succ, Act.put, List.setIfInBounds_toArray, List.set_cons_zero, List.set_cons_succ]
 refine held_take 2 (v := ?_) (by simp) (by kernel_rfl) (by kernel_rfl) (by kernel_rfl) (fun _ _ _ h => h) (Or.inl ⟨by rfl, ?_⟩) hHeld ?_
 case refine_2 => (intro w hSw; (try dsimp only at hSw); (try (obtain ⟨s0, s1, s2, s3⟩ := hSw)); simp only [List.getElem_cons_zero, List.getElem_cons_succ]; go_simp <;> with_reducible rfl)
 simp only [List.getElem_cons_zero, List.getElem_cons_succ, Act.put, List.setIfInBounds_toArray, List.set_cons_zero, List.set_cons_succ]
 refine held_take 3 (v := ?_) (by simp) (by kernel_rfl) (by kernel_rfl) (by kernel_rfl) (fun _ _ _ h => h) (Or.inl ⟨by rfl, ?_⟩) hHeld ?_
 case refine_2 => (intro w hSw; (try dsimp only at hSw); (try (obtain ⟨s0, s1, s2, s3⟩ := hSw)); simp only [List.getElem_cons_zero, List.getElem_cons_succ]; go_simp <;> with_reducible rfl)
 simp only [List.getElem_cons_zero, List.getElem_cons_succ, Act.put, List.setIfInBounds_toArray, List.set_cons_zero, List.set_cons_succ]
 refine held_take 4 (v := ?_) (by simp) (by kernel_rfl) (by kernel_rfl) (by kernel_rfl) (fun _ _ _ h => h) (Or.inl ⟨by rfl, ?_⟩) hHeld ?_
 case refine_2 => (intro w hSw; (try dsimp only at hSw); (try (obtain ⟨s0, s1, s2, s3⟩ := hSw)); simp only [List.getElem_cons_zero, List.getElem_cons_succ]; go_simp <;> with_reducible rfl)
 simp only [List.getElem_cons_zero, List.getElem_cons_succ, Act.put, List.setIfInBounds_toArray, List.set_cons_zero, List.set_cons_succ]
 refine held_take 6 (v := ?_) (by simp) (by kernel_rfl) (by kernel_rfl) (by kernel_rfl) (fun _ _ _ h => h) (Or.inl ⟨by rfl, ?_⟩) hHeld ?_
 case refine_2 => (intro w hSw; (try dsimp only at hSw); (try (obtain ⟨s0, s1, s2, s3⟩ := hSw)); simp only [List.getElem_cons_zero, List.getElem_cons_succ]; go_simp <;> with_reducible rfl)
 simp only [List.getElem_cons_zero, List.getElem_cons_succ, Act.put, List.setIfInBounds_toArray, List.set_cons_zero, List.set_cons_succ]
 refine held_take 7 (v := ?_) (by simp) (by kernel_rfl) (by kernel_rfl) (by kernel_rfl) (fun _ _ _ h => h) (Or.inl ⟨by rfl, ?_⟩) hHeld ?_
 case refine_2 => (intro w hSw; (try dsimp only at hSw); (try (obtain ⟨s0, s1, s2, s3⟩ := hSw)); simp only [List.getElem_cons_zero, List.getElem_cons_succ]; go_simp <;> with_reducible rfl)
 simp only [List.getElem_cons_zero, List.getElem_cons_succ, Act.put, List.setIfInBounds_toArray, List.set_cons_zero, List.set_cons_succ]
 refine held_take 8 (v := ?_) (by simp) (by kernel_rfl) (by kernel_rfl) (by kernel_rfl) (fun _ _ _ h => h) (Or.inl ⟨by rfl, ?_⟩) hHeld ?_
 case refine_2 => (intro w hSw; (try dsimp only at hSw); (try (obtain ⟨s0, s1, s2, s3⟩ := hSw)); simp only [List.getElem_cons_zero, List.getElem_cons_succ]; go_simp <;> with_reducible rfl)
 simp only [List.getElem_cons_zero, List.getElem_cons_succ, Act.put, List.setIfInBounds_toArray, List.set_cons_zero, List.set_cons_succ]
 refine held_take 9 (v := ?_) (by simp) (by kernel_rfl) (by kernel_rfl) (by kernel_rfl) (fun _ _ _ h => h) (Or.inl ⟨by rfl, ?_⟩) hHeld ?_
 case refine_2 => (intro w hSw; (try dsimp only at hSw); (try (obtain ⟨s0, s1, s2, s3⟩ := hSw)); simp only [List.getElem_cons_zero, List.getElem_cons_succ]; go_simp <;> with_reducible rfl)
 simp only [List.getElem_cons_zero, List.getElem_cons_succ, Act.put, List.setIfInBounds_toArray, List.set_cons_zero, List.set_cons_succ]
 refine held_take 10 (v := ?_) (by simp) (by kernel_rfl) (by kernel_rfl) (by kernel_rfl) (fun _ _ _ h => h) (Or.inl ⟨by rfl, ?_⟩) hHeld ?_
 case refine_2 => (intro w hSw; (try dsimp only at hSw); (try (obtain ⟨s0, s1, s2, s3⟩ := hSw)); simp only [List.getElem_cons_zero, List.getElem_cons_succ]; go_simp <;> with_reducible rfl)
 simp only [List.getElem_cons_zero, List.getElem_cons_succ, Act.put, List.setIfInBounds_toArray, List.set_cons_zero, List.set_cons_succ]
 refine held_sole 5 (by simp) (by kernel_rfl) (fun K hK => ?_)
 simp only [List.getElem_cons_zero, List.getElem_cons_succ]
 go_simp
 refine HAR.out.mono ?_
 rintro e w1 ⟨rfl, hT⟩
 have HT := Lib.hid hT
 have hK1 : Blk w1 W.heap.size 39 #[.int .i64 5, .int .i64 n, .int .i64 mm, .int .i64 i, .int .i64 t, .slice Av z.length cv, .slice Ad l.length cd, .slice Ak kz.length ck, .string nm, .slice Ab b.length cb] := (hT.2.2 W.heap.size hsA ⟨Nat.le_refl _, hsA⟩).trans hKA
 obtain ⟨c0, c1, c2, c3, c4, c5, c6, c7, c8, c9⟩ := blk10_cells hK1
 have hRA := kr_cut HT.out.1 (fun q h => Nat.lt_of_lt_of_le h.2 (show wA.heap.size ≤ w1.heap.size from HT.out.2.1.size)) HP.out (by omega) nm n HN.out
 rw [← HRR.out] at hRA
 have HRA := Lib.hid hRA
 clear hT HAR hK1 c0 c2 c3 c4 c5 c6 c7 c9 hRA
 go_wp2_with fail
 refine hK.out _ _ ⟨c1, c8, trivial, trivial⟩ (fun hHeld => ?_)
 clear hK K
 try simp only [Act.put, List.setIfInBounds_toArray, List.set_cons_zero, List.set_cons_succ]
 refine held_sole 11 (by simp) (by kernel_rfl) (fun K hK => ?_)
 simp only [List.getElem_cons_zero, List.getElem_cons_succ]
 go_simp
 refine HRA.out.mono ?_
 rintro e w2 ⟨rfl, hT2⟩
 have HT2 := Lib.hid hT2
 have hK2 : Blk w2 W.heap.size 39 #[.int .i64 5, .int .i64 n, .int .i64 mm, .int .i64 i, .int .i64 t, .slice Av z.length cv, .slice Ad l.length cd, .slice Ak kz.length ck, .string nm, .slice Ab b.length cb] := (hT2.2.2 W.heap.size (Nat.lt_of_lt_of_le hsA (show wA.heap.size ≤ w1.heap.size from HT.out.2.1.size)) ⟨Nat.le_refl _, hsA⟩).trans ((HT.out.2.2 W.heap.size hsA ⟨Nat.le_refl _, hsA⟩).trans hKA)
 obtain ⟨e0, e1, e2, e3, e4, e5, e6, e7, e8, e9⟩ := blk10_cells hK2
 clear hT2 HRA hK2 c1 c8 k1 k8
 go_wp2_with fail
 refine hK.out _ _ ⟨e1, e8, trivial, trivial⟩ (fun hHeld => ?_)
 clear hK K
 try simp only [Act.put, List.setIfInBounds_toArray, List.set_cons_zero, List.set_cons_succ]
 refine held_take 12 (v := ?_) (by simp) (by kernel_rfl) (by kernel_rfl) (by kernel_rfl) (fun _ _ _ h => h) (Or.inl ⟨by rfl, ?_⟩) hHeld ?_
 case refine_2 => (intro w hSw; (try dsimp only at hSw); (try (obtain ⟨s0, s1, s2, s3⟩ := hSw)); simp only [List.getElem_cons_zero, List.getElem_cons_succ]; go_simp <;> with_reducible rfl)
 simp only [List.getElem_cons_zero, List.getElem_cons_succ, Act.put, List.setIfInBounds_toArray, List.set_cons_zero, List.set_cons_succ]
 refine held_take 13 (v := ?_) (by simp) (by kernel_rfl) (by kernel_rfl) (by kernel_rfl) (fun _ _ _ h => h) (Or.inl ⟨by rfl, ?_⟩) hHeld ?_
 case refine_2 => (intro w hSw; (try dsimp only at hSw); (try (obtain ⟨s0, s1, s2, s3⟩ := hSw)); simp only [List.getElem_cons_zero, List.getElem_cons_succ]; go_simp <;> with_reducible rfl)
 simp only [List.getElem_cons_zero, List.getElem_cons_succ, Act.put, List.setIfInBounds_toArray, List.set_cons_zero, List.set_cons_succ]
 refine wpAnyH_done (by kernel_rfl) ?_ _
 clear hHeld e0 e1 e2 e3 e4 e5 e6 e7 e8 e9
 have HS5 := Lib.hid (KS.free HT2.out.1)
 have HP5 := Lib.hid (show PlayOk (k + 1) RR.2 by rw [HRR.out]; exact (HP.out.cutF nm.data.toList n))
 have HB5 := Lib.hid ((HBA.out.trans (Below.refl _ _).drew).trans ((show Below lo wA.drew w1 from HT.out.2.1).trans HT2.out.2.1))
 obtain ⟨B, rs2, c2, cB, hFB, hfB, hgB⟩ := ks_row HS5.out
 have HFB := Lib.hid hFB
 have HfB := Lib.hid hfB
 have HFI := Lib.hid (kp_files (HS5.out.below ((Below.refl _ _).drew)) HP5.out (by omega))
 clear hFB hfB 
 go_wp2_with fail
 refine wp_region_held_drew (by kernel_rfl) (S := fun W => W.cell? ⟨g2, 0, none⟩ = some (.slice B rs2.length c2) ∧ True ∧ True ∧ True) ⟨cB, trivial, trivial, trivial⟩ (fun hHeld => ?_)
 refine held_take 0 (v := ?_) (by simp) (by kernel_rfl) (by kernel_rfl) (by kernel_rfl) (fun _ _ _ h => h) (Or.inl ⟨by rfl, ?_⟩) hHeld ?_
 case refine_2 => (intro w hSw; (try dsimp only at hSw); (try (obtain ⟨s0, s1, s2, s3⟩ := hSw)); simp only [List.getElem_cons_zero]; go_simp <;> with_reducible rfl)
 simp only [List.getElem_cons_zero, Act.put, List.setIfInBounds_toArray, List.set_cons_zero, List.set_cons_succ]
 refine held_take 1 (v := ?_) (by simp) (by kernel_rfl) (by kernel_rfl) (by kernel_rfl) (fun _ _ _ h => h) (Or.inl ⟨by rfl, ?_⟩) hHeld ?_
 case refine_2 => (intro w hSw; (try dsimp only at hSw); (try (obtain ⟨s0, s1, s2, s3⟩ := hSw)); simp only [List.getElem_cons_zero, List.getElem_cons_succ]; go_simp <;> with_reducible rfl)
 simp only [List.getElem_cons_zero, List.getElem_cons_succ, Act.put, List.setIfInBounds_toArray, List.set_cons_zero, List.set_cons_succ]
 refine held_take 2 (v := ?_) (by simp) (by kernel_rfl) (by kernel_rfl) (by kernel_rfl) (fun _ _ _ h => h) (Or.inl ⟨by rfl, ?_⟩) hHeld ?_
 case refine_2 => (intro w hSw; (try dsimp only at hSw); (try (obtain ⟨s0, s1, s2, s3⟩ := hSw)); simp only [List.getElem_cons_zero, List.getElem_cons_succ]; go_simp <;> with_reducible rfl)
 simp only [List.getElem_cons_zero, List.getElem_cons_succ, Act.put, List.setIfInBounds_toArray, List.set_cons_zero, List.set_cons_succ]
 refine held_take 4 (v := ?_) (by simp) (by kernel_rfl) (by kernel_rfl) (by kernel_rfl) (fun _ _ _ h => h) (Or.inl ⟨by rfl, ?_⟩) hHeld ?_
 case refine_2 => (intro w hSw; (try dsimp only at hSw); (try (obtain ⟨s0, s1, s2, s3⟩ := hSw)); simp only [List.getElem_cons_zero, List.getElem_cons_succ]; go_simp <;> with_reducible rfl)
 simp only [List.getElem_cons_zero, List.getElem_cons_succ, Act.put, List.setIfInBounds_toArray, List.set_cons_zero, List.set_cons_succ]
 refine held_take 5 (v := ?_) (by simp) (by kernel_rfl) (by kernel_rfl) (by kernel_rfl) (fun _ _ _ h => h) (Or.inl ⟨by rfl, ?_⟩) hHeld ?_
 case refine_2 => (intro w hSw; (try dsimp only at hSw); (try (obtain ⟨s0, s1, s2, s3⟩ := hSw)); simp only [List.getElem_cons_zero, List.getElem_cons_succ]; go_simp <;> with_reducible rfl)
 simp only [List.getElem_cons_zero, List.getElem_cons_succ, Act.put, List.setIfInBounds_toArray, List.set_cons_zero, List.set_cons_succ]
 refine held_take 6 (v := ?_) (by simp) (by kernel_rfl) (by kernel_rfl) (by kernel_rfl) (fun _ _ _ h => h) (Or.inl ⟨by rfl, ?_⟩) hHeld ?_
 case refine_2 => (intro w hSw; (try dsimp only at hSw); (try (obtain ⟨s0, s1, s2, s3⟩ := hSw)); simp only [List.getElem_cons_zero, List.getElem_cons_succ]; go_simp <;> with_reducible rfl)
 simp only [List.getElem_cons_zero, List.getElem_cons_succ, Act.put, List.setIfInBounds_toArray, List.set_cons_zero, List.set_cons_succ]
 refine held_take 7 (v := ?_) (by simp) (by kernel_rfl) (by kernel_rfl) (by kernel_rfl) (fun _ _ _ h => h) (Or.inl ⟨by rfl, ?_⟩) hHeld ?_
 case refine_2 => (intro w hSw; (try dsimp only at hSw); (try (obtain ⟨s0, s1, s2, s3⟩ := hSw)); simp only [List.getElem_cons_zero, List.getElem_cons_succ]; go_simp <;> with_reducible rfl)
 simp only [List.getElem_cons_zero, List.getElem_cons_succ, Act.put, List.setIfInBounds_toArray, List.set_cons_zero, List.set_cons_succ]
 refine held_sole 3 (by simp) (by kernel_rfl) (fun K hK => ?_)
 simp only [List.getElem_cons_zero, List.getElem_cons_succ]
 go_simp
 refine HFI.out.mono ?_
 rintro e w6 ⟨A, rs, c, rfl, hFA, hfA, hb6⟩
 have HB6 := Lib.hid ((Below.refl _ _).drew.trans (show Below _ _ _ from hb6))
 have cB6 := (HB6.out.cell (p := ⟨g2, 0, none⟩) hgB).trans cB
 have HSM := Lib.hid (kr_same (W := w6) A B c c2 HP5.out (by omega) hFA (HFB.out.below HB6.out) hfA HfB.out)
 clear hFA hfA hb6 HFI
 go_wp2_with fail
 refine hK.out _ _ ⟨cB6, trivial, trivial, trivial⟩ (fun hHeld => ?_)
 clear hK K
 try simp only [Act.put, List.setIfInBounds_toArray, List.set_cons_zero, List.set_cons_succ]
 refine held_sole 8 (by simp) (by kernel_rfl) (fun K hK => ?_)
 simp only [List.getElem_cons_zero, List.getElem_cons_succ]
 go_simp
 refine HSM.out.mono ?_
 rintro e w7 ⟨rfl, hb7⟩
 have HB7 := Lib.hid (HB6.out.trans (hb7.mono HB6.out.size))
 have cB7 := (HB7.out.cell (p := ⟨g2, 0, none⟩) hgB).trans cB
 clear hb7 HSM
 go_wp2_with fail
 refine hK.out _ _ ⟨cB7, trivial, trivial, trivial⟩ (fun hHeld => ?_)
 clear hK K
 try simp only [Act.put, List.setIfInBounds_toArray, List.set_cons_zero, List.set_cons_succ]
 refine held_take 9 (v := ?_) (by simp) (by kernel_rfl) (by kernel_rfl) (by kernel_rfl) (fun _ _ _ h => h) (Or.inl ⟨by rfl, ?_⟩) hHeld ?_
 case refine_2 => (intro w hSw; (try dsimp only at hSw); (try (obtain ⟨s0, s1, s2, s3⟩ := hSw)); simp only [List.getElem_cons_zero, List.getElem_cons_succ]; go_simp <;> with_reducible rfl)
 simp only [List.getElem_cons_zero, List.getElem_cons_succ, Act.put, List.setIfInBounds_toArray, List.set_cons_zero, List.set_cons_succ]
 refine held_take 10 (v := ?_) (by simp) (by kernel_rfl) (by kernel_rfl) (by kernel_rfl) (fun _ _ _ h => h) (Or.inl ⟨by rfl, ?_⟩) hHeld ?_
 case refine_2 => (intro w hSw; (try dsimp only at hSw); (try (obtain ⟨s0, s1, s2, s3⟩ := hSw)); simp only [List.getElem_cons_zero, List.getElem_cons_succ]; go_simp <;> with_reducible rfl)
 simp only [List.getElem_cons_zero, List.getElem_cons_succ, Act.put, List.setIfInBounds_toArray, List.set_cons_zero, List.set_cons_succ]
 refine wpAnyH_done (by kernel_rfl) ?_ _
 clear hHeld cB cB6 cB7
 go_wp2_with fail
 go_ret
 exact ⟨rfl, _, HS5.out.below HB7.out, HP5.out, HB5.out.trans (HB7.out.mono HS5.out.size)⟩
set_option maxHeartbeats 8000000 in
set_option maxRecDepth 100000 in
theorem kact6_any {W : World} {lo g m g2 k : Nat} {d : DkD} (a : ActD) (hS : KS W lo g m g2 d d (fun _ => False)) (hP : PlayOk k d) (hk : k < 60) (hA : a.Ok W lo) (hF : ∀ W', Below lo W W' → Facts W') (ho : a.o = 6) (hdl : a.s.l.length ≤ 65536) (hbl : a.b.length ≤ 65536) :
  Calls Tryz.prog 10 #[.pointer (some ⟨g, 0, none⟩), .pointer (some ⟨g2, 0, none⟩), .agg a.cs.toArray] W fun e w' => e = .returned (.bool true) ∧ ActTo W lo g m g2 k w' := by
 have hlo := hS.size
 unfold ActD.cs
 obtain ⟨o, n, mm, ⟨i, t, Av, z, cv, Ad, l, cd⟩, Ak, kz, ck, nm, Ab, b, cb⟩ := a
 simp only at ho hdl hbl hA ⊢
 subst ho
 obtain ⟨hs, hz8, hn, hm, hkd, hkb, hkl, hnl, hb⟩ := hA
 obtain ⟨hsv, hsd, hsz, hszl, hsdl, hsi⟩ := hs
 simp only at hz8 hn hm hkd hkb hkl hnl hb hsv hsd hsz hszl hsdl hsi
 obtain ⟨wA, hwA⟩ : ∃ wA, wA = W.alloc (.cells #[.int .i64 6, .int .i64 n, .int .i64 mm, .int .i64 i, .int .i64 t, .slice Av z.length cv, .slice Ad l.length cd, .slice Ak kz.length ck, .string nm, .slice Ab b.length cb] 39) := ⟨_, rfl⟩
 have hbA : Below W.heap.size W wA := by rw [hwA]; exact (Below.refl _ W).alloc (Nat.le_refl _) _
 have hKA : Blk wA W.heap.size 39 #[.int .i64 6, .int .i64 n, .int .i64 mm, .int .i64 i, .int .i64 t, .slice Av z.length cv, .slice Ad l.length cd, .slice Ak kz.length ck, .string nm, .slice Ab b.length cb] := by rw [hwA]; exact Blk.new W 39 _
 have hsA : W.heap.size < wA.heap.size := hKA.lt
 have HSA := Lib.hid (hS.fresh hbA)
 have HBA := Lib.hid (hbA.mono hlo)
 have HBW := Lib.hid hbA
 have HKA := Lib.hid hKA
 have HWA := Lib.hid hwA
 have HP := Lib.hid hP
 have HF := Lib.hid hF
 have HSV := Lib.hid hsv
 have HSD := Lib.hid hsd
 have HSZ := Lib.hid hsz
 have HKD := Lib.hid hkd
 have HKB := Lib.hid hkb
 have HRB := Lib.hid hb
 have HS0 := Lib.hid hS
 have HSI := Lib.hid hsi
 have HN := Lib.hid hn
 have HM := Lib.hid hm
 obtain ⟨k0, k1, k2, k3, k4, k5, k6, k7, k8, k9⟩ := blk10_cells hKA
 clear hwA hbA hP hF hsv hsd hsz hkd hkb hb hS hsi hn hm
 go_enter Tryz.func10, Tryz.ntmps10
 go_upto_region 26 with (fail)
 rw [← HWA.out]
 have hAR := kp_remove (W := wA.drew) (H := (fun q => W.heap.size ≤ q ∧ q < wA.heap.size)) (HSA.out.below ((Below.refl _ _).drew)) (fun q h => h.2) nm hnl
 obtain ⟨RR, hRR⟩ : ∃ RR, RR = d.remove nm.data.toList := ⟨_, rfl⟩
 rw [← hRR] at hAR
 have HAR := Lib.hid hAR
 have HRR := Lib.hid hRR
 clear k0 k1 k2 k3 k4 k5 k6 k7 k9 hAR hRR
 refine wp_region_held_drew (by kernel_rfl) (S := fun W' => W'.cell? ⟨W.heap.size, 8, none⟩ = some (.string nm) ∧ True ∧ True ∧ True) ⟨k8, trivial, trivial, trivial⟩ (fun hHeld => ?_)
 refine held_take 0 (v := ?_) (by simp) (by kernel_rfl) (by kernel_rfl) (by kernel_rfl) (fun _ _ _ h => h) (Or.inl ⟨by rfl, ?_⟩) hHeld ?_
 case refine_2 => (intro w hSw; (try dsimp only at hSw); (try (obtain ⟨s0, s1, s2, s3⟩ := hSw)); simp only [List.getElem_cons_zero]; go_simp <;> with_reducible rfl)
 simp only [List.getElem_cons_zero, Act.put, List.setIfInBounds_toArray, List.set_cons_zero, List.set_cons_succ]
 refine held_take 1 (v := ?_) (by simp) (by kernel_rfl) (by kernel_rfl) (by kernel_rfl) (fun _ _ _ h => h) (Or.inl ⟨by rfl, ?_⟩) hHeld ?_
 case refine_2 => (intro w hSw; (try dsimp only at hSw); (try (obtain ⟨s0, s1, s2, s3⟩ := hSw)); simp only [List.getElem_cons_zero, List.getElem_cons_succ]; go_simp <;> with_reducible rfl)
 simp only [List.getElem_cons_zero, List.getElem_cons_succ, Act.put, List.setIfInBounds_toArray, List.set_cons_zero, List.set_cons_succ]
 refine held_take 2 (v := ?_) (by simp) (by kernel_rfl) (by kernel_rfl) (by kernel_rfl) (fun _ _ _ h => h) (Or.inl ⟨by rfl, ?_⟩) hHeld ?_
 case refine_2 => (intro w hSw; (try dsimp only at hSw); (try (obtain ⟨s0, s1, s2, s3⟩ := hSw)); simp only [List.getElem_cons_zero, List.getElem_cons_succ]; go_simp <;> with_reducible rfl)
 simp only [List.getElem_cons_zero, List.getElem_cons_succ, Act.put, List.setIfInBounds_toArray, List.set_cons_zero, List.set_cons_succ]
 refine held_take 4 (v := ?_) (by simp) (by kernel_rfl) (by kernel_rfl) (by kernel_rfl) (fun _ _ _ h => h) (Or.inl ⟨by rfl, ?_⟩) hHeld ?_
 case refine_2 => (intro w hSw; (try dsimp only at hSw); (try (obtain ⟨s0, s1, s2, s3⟩ := hSw)); simp only [List.getElem_cons_zero, List.getElem_cons_succ]; go_simp <;> with_reducible rfl)
 simp only [List.getElem_cons_zero, List.getElem_cons_succ, Act.put, List.setIfInBounds_toArray, List.set_cons_zero, List.set_cons_succ]
 refine held_take 5 (v := ?_) (by simp) (by kernel_rfl) (by kernel_rfl) (by kernel_rfl) (fun _ _ _ h => h) (Or.inl ⟨by rfl, ?_⟩) hHeld ?_
 case refine_2 => (intro w hSw; (try dsimp only at hSw); (try (obtain ⟨s0, s1, s2, s3⟩ := hSw)); simp only [List.getElem_cons_zero, List.getElem_cons_succ]; go_simp <;> with_reducible rfl)
 simp only [List.getElem_cons_zero, List.getElem_cons_succ, Act.put, List.setIfInBounds_toArray, List.set_cons_zero, List.set_cons_succ]
 refine held_take 6 (v := ?_) (by simp) (by kernel_rfl) (by kernel_rfl) (by kernel_rfl) (fun _ _ _ h => h) (Or.inl ⟨by rfl, ?_⟩) hHeld ?_
 case refine_2 => (intro w hSw; (try dsimp only at hSw); (try (obtain ⟨s0, s1, s2, s3⟩ := hSw)); simp only [List.getElem_cons_zero, List.getElem_cons_succ]; go_simp <;> with_reducible rfl)
 simp only [List.getElem_cons_zero, List.getElem_cons_succ, Act.put, List.setIfInBounds_toArray, List.set_cons_zero, List.set_cons_succ]
 refine held_sole 3 (by simp) (by kernel_rfl) (fun K hK => ?_)
 simp only [List.getElem_cons_zero, List.getElem_cons_succ]
 go_simp
 refine HAR.out.mono ?_
 rintro e w1 ⟨rfl, hT⟩
 have HT := Lib.hid hT
 have hK1 : Blk w1 W.heap.size 39 #[.int .i64 6, .int .i64 n, .int .i64 mm, .int .i64 i, .int .i64 t, .slice Av z.length cv, .slice Ad l.length cd, .slice Ak kz.length ck, .string nm, .slice Ab b.length cb] := (hT.2.2 W.heap.size hsA ⟨Nat.le_refl _, hsA⟩).trans hKA
 obtain ⟨c0, c1, c2, c3, c4, c5, c6, c7, c8, c9⟩ := blk10_cells hK1
 have hRA := kr_remove HT.out.1 (fun q h => Nat.lt_of_lt_of_le h.2 (show wA.heap.size ≤ w1.heap.size from HT.out.2.1.size)) HP.out (by omega) nm
 rw [← HRR.out] at hRA
 have HRA := Lib.hid hRA
 clear hT HAR hK1 c0 c1 c2 c3 c4 c5 c6 c7 c9 hRA
 go_wp2_with fail
 refine hK.out _ _ ⟨c8, trivial, trivial, trivial⟩ (fun hHeld => ?_)
 clear hK K
 try simp only [Act.put, List.setIfInBounds_toArray, List.set_cons_zero, List.set_cons_succ]
 refine held_sole 7 (by simp) (by kernel_rfl) (fun K hK => ?_)
 simp only [List.getElem_cons_zero, List.getElem_cons_succ]
 go_simp
 refine HRA.out.mono ?_
 rintro e w2 ⟨rfl, hT2⟩
 have HT2 := Lib.hid hT2
 have hK2 : Blk w2 W.heap.size 39 #[.int .i64 6, .int .i64 n, .int .i64 mm, .int .i64 i, .int .i64 t, .slice Av z.length cv, .slice Ad l.length cd, .slice Ak kz.length ck, .string nm, .slice Ab b.length cb] := (hT2.2.2 W.heap.size (Nat.lt_of_lt_of_le hsA (show wA.heap.size ≤ w1.heap.size from HT.out.2.1.size)) ⟨Nat.le_refl _, hsA⟩).trans ((HT.out.2.2 W.heap.size hsA ⟨Nat.le_refl _, hsA⟩).trans hKA)
 obtain ⟨e0, e1, e2, e3, e4, e5, e6, e7, e8, e9⟩ := blk10_cells hK2
 clear hT2 HRA hK2 c8 k8
 go_wp2_with fail
 refine hK.out _ _ ⟨e8, trivial, trivial, trivial⟩ (fun hHeld => ?_)
 clear hK K
 try simp only [Act.put, List.setIfInBounds_toArray, List.set_cons_zero, List.set_cons_succ]
 refine held_take 8 (v := ?_) (by simp) (by kernel_rfl) (by kernel_rfl) (by kernel_rfl) (fun _ _ _ h => h) (Or.inl ⟨by rfl, ?_⟩) hHeld ?_
 case refine_2 => (intro w hSw; (try dsimp only at hSw); (try (obtain ⟨s0, s1, s2, s3⟩ := hSw)); simp only [List.getElem_cons_zero, List.getElem_cons_succ]; go_simp <;> with_reducible rfl)
 simp only [List.getElem_cons_zero, List.getElem_cons_succ, Act.put, List.setIfInBounds_toArray, List.set_cons_zero, List.set_cons_succ]
 refine held_take 9 (v := ?_) (by simp) (by kernel_rfl) (by kernel_rfl) (by kernel_rfl) (fun _ _ _ h => h) (Or.inl ⟨by rfl, ?_⟩) hHeld ?_
 case refine_2 => (intro w hSw; (try dsimp only at hSw); (try (obtain ⟨s0, s1, s2, s3⟩ := hSw)); simp only [List.getElem_cons_zero, List.getElem_cons_succ]; go_simp <;> with_reducible rfl)
 simp only [List.getElem_cons_zero, List.getElem_cons_succ, Act.put, List.setIfInBounds_toArray, List.set_cons_zero, List.set_cons_succ]
 refine wpAnyH_done (by kernel_rfl) ?_ _
 clear hHeld e0 e1 e2 e3 e4 e5 e6 e7 e8 e9
 have HS5 := Lib.hid (KS.free HT2.out.1)
 have HP5 := Lib.hid (show PlayOk (k + 1) RR.2 by rw [HRR.out]; exact (HP.out.remove nm.data.toList))
 have HB5 := Lib.hid ((HBA.out.trans (Below.refl _ _).drew).trans ((show Below lo wA.drew w1 from HT.out.2.1).trans HT2.out.2.1))
 obtain ⟨B, rs2, c2, cB, hFB, hfB, hgB⟩ := ks_row HS5.out
 have HFB := Lib.hid hFB
 have HfB := Lib.hid hfB
 have HFI := Lib.hid (kp_files (HS5.out.below ((Below.refl _ _).drew)) HP5.out (by omega))
 clear hFB hfB 
 go_wp2_with fail
 refine wp_region_held_drew (by kernel_rfl) (S := fun W => W.cell? ⟨g2, 0, none⟩ = some (.slice B rs2.length c2) ∧ True ∧ True ∧ True) ⟨cB, trivial, trivial, trivial⟩ (fun hHeld => ?_)
 refine held_take 0 (v := ?_) (by simp) (by kernel_rfl) (by kernel_rfl) (by kernel_rfl) (fun _ _ _ h => h) (Or.inl ⟨by rfl, ?_⟩) hHeld ?_
 case refine_2 => (intro w hSw; (try dsimp only at hSw); (try (obtain ⟨s0, s1, s2, s3⟩ := hSw)); simp only [List.getElem_cons_zero]; go_simp <;> with_reducible rfl)
 simp only [List.getElem_cons_zero, Act.put, List.setIfInBounds_toArray, List.set_cons_zero, List.set_cons_succ]
 refine held_take 1 (v := ?_) (by simp) (by kernel_rfl) (by kernel_rfl) (by kernel_rfl) (fun _ _ _ h => h) (Or.inl ⟨by rfl, ?_⟩) hHeld ?_
 case refine_2 => (intro w hSw; (try dsimp only at hSw); (try (obtain ⟨s0, s1, s2, s3⟩ := hSw)); simp only [List.getElem_cons_zero, List.getElem_cons_succ]; go_simp <;> with_reducible rfl)
 simp only [List.getElem_cons_zero, List.getElem_cons_succ, Act.put, List.setIfInBounds_toArray, List.set_cons_zero, List.set_cons_succ]
 refine held_take 2 (v := ?_) (by simp) (by kernel_rfl) (by kernel_rfl) (by kernel_rfl) (fun _ _ _ h => h) (Or.inl ⟨by rfl, ?_⟩) hHeld ?_
 case refine_2 => (intro w hSw; (try dsimp only at hSw); (try (obtain ⟨s0, s1, s2, s3⟩ := hSw)); simp only [List.getElem_cons_zero, List.getElem_cons_succ]; go_simp <;> with_reducible rfl)
 simp only [List.getElem_cons_zero, List.getElem_cons_succ, Act.put, List.setIfInBounds_toArray, List.set_cons_zero, List.set_cons_succ]
 refine held_take 4 (v := ?_) (by simp) (by kernel_rfl) (by kernel_rfl) (by kernel_rfl) (fun _ _ _ h => h) (Or.inl ⟨by rfl, ?_⟩) hHeld ?_
 case refine_2 => (intro w hSw; (try dsimp only at hSw); (try (obtain ⟨s0, s1, s2, s3⟩ := hSw)); simp only [List.getElem_cons_zero, List.getElem_cons_succ]; go_simp <;> with_reducible rfl)
 simp only [List.getElem_cons_zero, List.getElem_cons_succ, Act.put, List.setIfInBounds_toArray, List.set_cons_zero, List.set_cons_succ]
 refine held_take 5 (v := ?_) (by simp) (by kernel_rfl) (by kernel_rfl) (by kernel_rfl) (fun _ _ _ h => h) (Or.inl ⟨by rfl, ?_⟩) hHeld ?_
 case refine_2 => (intro w hSw; (try dsimp only at hSw); (try (obtain ⟨s0, s1, s2, s3⟩ := hSw)); simp only [List.getElem_cons_zero, List.getElem_cons_succ]; go_simp <;> with_reducible rfl)
 simp only [List.getElem_cons_zero, List.getElem_cons_succ, Act.put, List.setIfInBounds_toArray, List.set_cons_zero, List.set_cons_succ]
 refine held_take 6 (v := ?_) (by simp) (by kernel_rfl) (by kernel_rfl) (by kernel_rfl) (fun _ _ _ h => h) (Or.inl ⟨by rfl, ?_⟩) hHeld ?_
 case refine_2 => (intro w hSw; (try dsimp only at hSw); (try (obtain ⟨s0, s1, s2, s3⟩ := hSw)); simp only [List.getElem_cons_zero, List.getElem_cons_succ]; go_simp <;> with_reducible rfl)
 simp only [List.getElem_cons_zero, List.getElem_cons_succ, Act.put, List.setIfInBounds_toArray, List.set_cons_zero, List.set_cons_succ]
 refine held_take 7 (v := ?_) (by simp) (by kernel_rfl) (by kernel_rfl) (by kernel_rfl) (fun _ _ _ h => h) (Or.inl ⟨by rfl, ?_⟩) hHeld ?_
 case refine_2 => (intro w hSw; (try dsimp only at hSw); (try (obtain ⟨s0, s1, s2, s3⟩ := hSw)); simp only [List.getElem_cons_zero, List.getElem_cons_succ]; go_simp <;> with_reducible rfl)
 simp only [List.getElem_cons_zero, List.getElem_cons_succ, Act.put, List.setIfInBounds_toArray, List.set_cons_zero, List.set_cons_succ]
 refine held_sole 3 (by simp) (by kernel_rfl) (fun K hK => ?_)
 simp only [List.getElem_cons_zero, List.getElem_cons_succ]
 go_simp
 refine HFI.out.mono ?_
 rintro e w6 ⟨A, rs, c, rfl, hFA, hfA, hb6⟩
 have HB6 := Lib.hid ((Below.refl _ _).drew.trans (show Below _ _ _ from hb6))
 have cB6 := (HB6.out.cell (p := ⟨g2, 0, none⟩) hgB).trans cB
 have HSM := Lib.hid (kr_same (W := w6) A B c c2 HP5.out (by omega) hFA (HFB.out.below HB6.out) hfA HfB.out)
 clear hFA hfA hb6 HFI
 go_wp2_with fail
 refine hK.out _ _ ⟨cB6, trivial, trivial, trivial⟩ (fun hHeld => ?_)
 clear hK K
 try simp only [Act.put, List.setIfInBounds_toArray, List.set_cons_zero, List.set_cons_succ]
 refine held_sole 8 (by simp) (by kernel_rfl) (fun K hK => ?_)
 simp only [List.getElem_cons_zero, List.getElem_cons_succ]
 go_simp
 refine HSM.out.mono ?_
 rintro e w7 ⟨rfl, hb7⟩
 have HB7 := Lib.hid (HB6.out.trans (hb7.mono HB6.out.size))
 have cB7 := (HB7.out.cell (p := ⟨g2, 0, none⟩) hgB).trans cB
 clear hb7 HSM
 go_wp2_with fail
 refine hK.out _ _ ⟨cB7, trivial, trivial, trivial⟩ (fun hHeld => ?_)
 clear hK K
 try simp only [Act.put, List.setIfInBounds_toArray, List.set_cons_zero, List.set_cons_succ]
 refine held_take 9 (v := ?_) (by simp) (by kernel_rfl) (by kernel_rfl) (by kernel_rfl) (fun _ _ _ h => h) (Or.inl ⟨by rfl, ?_⟩) hHeld ?_
 case refine_2 => (intro w hSw; (try dsimp only at hSw); (try (obtain ⟨s0, s1, s2, s3⟩ := hSw)); simp only [List.getElem_cons_zero, List.getElem_cons_succ]; go_simp <;> with_reducible rfl)
 simp only [List.getElem_cons_zero, List.getElem_cons_succ, Act.put, List.setIfInBounds_toArray, List.set_cons_zero, List.set_cons_succ]
 refine held_take 10 (v := ?_) (by simp) (by kernel_rfl) (by kernel_rfl) (by kernel_rfl) (fun _ _ _ h => h) (Or.inl ⟨by rfl, ?_⟩) hHeld ?_
 case refine_2 => (intro w hSw; (try dsimp only at hSw); (try (obtain ⟨s0, s1, s2, s3⟩ := hSw)); simp only [List.getElem_cons_zero, List.getElem_cons_succ]; go_simp <;> with_reducible rfl)
 simp only [List.getElem_cons_zero, List.getElem_cons_succ, Act.put, List.setIfInBounds_toArray, List.set_cons_zero, List.set_cons_succ]
 refine wpAnyH_done (by kernel_rfl) ?_ _
 clear hHeld cB cB6 cB7
 go_wp2_with fail
 go_ret
 exact ⟨rfl, _, HS5.out.below HB7.out, HP5.out, HB5.out.trans (HB7.out.mono HS5.out.size)⟩
end Go.Proofs.YteehkcpokgeipaaGreatDoor
