/- The reference's taker of an instance's bytes (pavaneref18.taker). Condition: the taker is a call's own. -/
import Derived.Test.YtaadbklimfngiaaImageRead
set_option linter.unusedVariables false
namespace Go.Proofs.Ytaadbklimfngiaa
open Go.RowKit Oct

/-- A taker: all the bytes, how far, whether something was wrong. -/
structure TkAt (w : World) (g : Nat) (A : Option Addr) (P : List UInt8) (c : Nat) (at_ : Nat) (bad : Bool) : Prop where
  blk : Blk w g 148 #[.slice A P.length c, .int .i64 at_, .bool bad]
  rd : Rd w g A (cells P)
  le : P.length ≤ c
  cap : c ≤ 9223372036854775807
  len : P.length ≤ 140737488351232
  here : at_ ≤ P.length
theorem TkAt.below {w w' : World} {g : Nat} {A : Option Addr} {P : List UInt8} {c at_ : Nat} {bad : Bool} (h : TkAt w g A P c at_ bad) {B : Nat} (hb : Below B w w') (hB : g < B) : TkAt w' g A P c at_ bad :=
  ⟨h.blk.below hb hB, h.rd.below (hb.mono (by omega)), h.le, h.cap, h.len, h.here⟩
theorem TkAt.set2 {w : World} {g : Nat} {A : Option Addr} {P : List UInt8} {c at_ : Nat} {bad : Bool} (h : TkAt w g A P c at_ bad) (x : Bool) : TkAt (w.setCell ⟨g, 2, none⟩ (.bool x)) g A P c at_ x :=
  ⟨Blk.set_ h.blk 2 _, h.rd.setCell_ 2 _, h.le, h.cap, h.len, h.here⟩
theorem TkAt.set1 {w : World} {g : Nat} {A : Option Addr} {P : List UInt8} {c at_ : Nat} {bad : Bool} (h : TkAt w g A P c at_ bad) (n : Nat) (hn : n ≤ P.length) : TkAt (w.setCell ⟨g, 1, none⟩ (.int .i64 n)) g A P c n bad :=
  ⟨Blk.set_ h.blk 1 _, h.rd.setCell_ 1 _, h.le, h.cap, h.len, hn⟩
theorem num_relR (P : List UInt8) (at_ : Nat) : NumRel false (P.drop at_) (unfold1 (takeU maxU (P.drop at_)).1) (decide ((takeU maxU (P.drop at_)).2.2 ≠ 0)) (P.drop (at_ + (takeU maxU (P.drop at_)).2.1)) := by
  unfold NumRel tkI
  by_cases h : (takeU maxU (P.drop at_)).2.2 = 0 <;> simp [h]
theorem row_relR (P : List UInt8) (at_ : Nat) : RowRel false (P.drop at_) (takeZ (P.drop at_)).1 (decide ((takeZ (P.drop at_)).2.2 ≠ 0)) (P.drop (at_ + (takeZ (P.drop at_)).2.1)) := by
  unfold RowRel tkZ
  by_cases h : (takeZ (P.drop at_)).2.2 = 0 <;> simp [h]
theorem rtakeInt_q (A : Option Addr) (l : List UInt8) (n c B : Nat) (hn : n = l.length) (w : World) (hr : Rd w B A (cells l)) (hl : l.length ≤ 4611686018427387904) (k : Nat) :
    Calls Try.prog 31 #[.slice A n c] (w.drewN k) fun e w' => e = .returned (.tuple #[.int .i64 (unfold1 (takeU maxU l).1), .int .i64 (takeU maxU l).2.1, .int .i64 (takeU maxU l).2.2]) ∧ w' = w.drewN k :=
  (rtakeInt_any A l n c B hn (w.drewN k) (hr.drewN k) hl).mono fun e w' h => ⟨h.1, h.2.symm⟩
theorem rtakeUint_q (A : Option Addr) (l : List UInt8) (n c B : Nat) (hn : n = l.length) (w : World) (hr : Rd w B A (cells l)) (hl : l.length ≤ 4611686018427387904) (k : Nat) :
    Calls Try.prog 27 #[.slice A n c] (w.drewN k) fun e w' => e = .returned (.tuple #[.int .i64 (takeU maxI l).1, .int .i64 (takeU maxI l).2.1, .int .i64 (takeU maxI l).2.2]) ∧ w' = w.drewN k :=
  (rtakeUint_any A l n c B hn (w.drewN k) (hr.drewN k) hl).mono fun e w' h => ⟨h.1, h.2.symm⟩
set_option maxHeartbeats 2000000 in
set_option maxRecDepth 100000 in
theorem tint_any (w : World) (g : Nat) (A : Option Addr) (P : List UInt8) (c at_ : Nat) (bad : Bool) (hT : TkAt w g A P c at_ bad) :
    Calls Try.prog 106 #[.pointer (some ⟨g, 0, none⟩)] w fun e w' => ∃ n at' bad', e = .returned (.int .i64 n) ∧ TkAt w' g A P c at' bad' ∧ w.grownBy w' (some g) ∧ NumRel bad (P.drop at_) n bad' (P.drop at') := by
  have HT := Lib.hid hT
  obtain ⟨k0, k1, k2, f0, f1, f2⟩ := blk3_at hT.blk
  have hgl : g < w.heap.size := hT.blk.lt
  have hat := hT.here
  have hle := hT.le
  have hln := hT.len
  have hcp := hT.cap
  clear hT
  by_cases hb : bad = true
  · subst hb
    have hnr : NumRel true (P.drop at_) 0 true (P.drop at_) := ⟨fun _ => .inl rfl, fun h => by cases h⟩
    have HNR := Lib.hid hnr
    clear hnr
    go_enter Try.func106, Try.ntmps106
    go_wp2
    go_ret
    exact ⟨0, at_, true, rfl, HT.out, grown_of_below (Below.refl _ _) _, HNR.out⟩
  · have hb' : bad = false := by simpa using hb
    subst hb'
    clear hb
    have hcut := fun W : World => run_cut_from (P := Try.prog) Try.underlying22 info_u8 A P.length c at_ hat (at_ : Int) rfl W
    have HLEN := Lib.hid (show (P.drop at_).length = P.length - at_ from List.length_drop ..)
    have hrdc : Rd w g (cutA A at_ c) (cells (P.drop at_)) := by
      have h3 := HT.out.rd.cutA (k := at_) (cap := c) (by rw [cells_length]; exact hat) (by rw [cells_length]; exact hle)
      have e2 : (cells P).drop at_ = cells (P.drop at_) := by simp [cells, List.map_drop]
      rwa [e2] at h3
    have HRDC := Lib.hid hrdc
    have HREL := Lib.hid (num_relR P at_)
    have hu : (takeU maxU (P.drop at_)).2.1 ≤ P.length - at_ := by have := takeU_used maxU (P.drop at_); rw [HLEN.out] at this; exact this
    clear hrdc
    go_enter Try.func106, Try.ntmps106
    go_upto_region 3 with fail
    go_quiet ((go_at_call 31; exact Calls.quiet_of_same (rtakeInt_q _ _ _ _ _ HLEN.out.symm _ HRDC.out (by rw [HLEN.out]; omega) _)))
    have HT1 := Lib.hid (show TkAt (w.drewN nq) g A P c at_ false from ⟨HT.out.blk, HT.out.rd, HT.out.le, HT.out.cap, HT.out.len, HT.out.here⟩)
    have HG1 := Lib.hid (show w.grownBy (w.drewN nq) none from grown_drewN (grown_of_below (Below.refl _ w) none) nq)
    generalize w.drewN nq = w1 at HT1 HG1 ⊢
    clear k0 k1 k2 f0 f1 f2 hcut
    obtain ⟨k0, k1, k2, f0, f1, f2⟩ := blk3_at HT1.out.blk
    obtain ⟨u, hu2⟩ : ∃ u, u = (takeU maxU (P.drop at_)).2.1 := ⟨_, rfl⟩
    obtain ⟨E, hE⟩ : ∃ u, u = (takeU maxU (P.drop at_)).2.2 := ⟨_, rfl⟩
    rw [← hu2] at hu HREL ⊢
    rw [← hE] at HREL ⊢
    clear hu2 hE
    have hgo : ∀ b : Bool, Hid (TkAt ((w1.setCell ⟨g, 2, none⟩ (.bool b)).setCell ⟨g, 1, none⟩ (.int .i64 (at_ + u : Nat))) g A P c (at_ + u) b ∧ w.grownBy ((w1.setCell ⟨g, 2, none⟩ (.bool b)).setCell ⟨g, 1, none⟩ (.int .i64 (at_ + u : Nat))) (some g)) := fun b =>
      Lib.hid ⟨(HT1.out.set2 b).set1 (at_ + u) (by omega), grown_then (grown_of_below (below_of_grown HG1.out) (some g)) (grown_then (grown_setCell w1 g 2 _) (grown_setCell _ g 1 _) (.inl rfl)) (.inl rfl)⟩
    have hsum : ((at_ + u : Nat) : Int) = (at_ : Int) + (u : Int) := by omega
    by_cases h0 : E = 0
    · have HF := hgo false
      rw [hsum] at HF
      have HR0 : Hid (NumRel false (P.drop at_) _ false (P.drop (at_ + u))) := Lib.hid (by have h := HREL.out; simpa [h0] using h)
      rw [h0]
      clear hgo hsum h0 HREL
      go_wp2
      go_ret
      exact ⟨_, at_ + u, false, rfl, HF.out.1, HF.out.2, HR0.out⟩
    · have h0b : (E != 0) = true := by simpa using h0
      have HF := hgo true
      rw [hsum] at HF
      have HR0 : Hid (NumRel false (P.drop at_) _ true (P.drop (at_ + u))) := Lib.hid (by have h := HREL.out; simpa [h0] using h)
      clear hgo hsum h0 HREL
      go_wp2
      go_ret
      exact ⟨_, at_ + u, true, rfl, HF.out.1, HF.out.2, HR0.out⟩
set_option maxHeartbeats 2000000 in
set_option maxRecDepth 100000 in
theorem tints_any (w : World) (g : Nat) (A : Option Addr) (P : List UInt8) (c at_ : Nat) (bad : Bool) (hT : TkAt w g A P c at_ bad) :
    Calls Try.prog 104 #[.pointer (some ⟨g, 0, none⟩)] w fun e w' => ∃ v z at' bad', e = .returned v ∧ Is w' w.heap.size v z ∧ TkAt w' g A P c at' bad' ∧ w.grownBy w' (some g) ∧ RowRel bad (P.drop at_) z bad' (P.drop at') := by
  have HT := Lib.hid hT
  obtain ⟨k0, k1, k2, f0, f1, f2⟩ := blk3_at hT.blk
  have hgl : g < w.heap.size := hT.blk.lt
  have hat := hT.here
  have hle := hT.le
  have hln := hT.len
  have hcp := hT.cap
  clear hT
  by_cases hb : bad = true
  · subst hb
    have HNR : Hid (RowRel true (P.drop at_) [] true (P.drop at_)) := Lib.hid ⟨fun _ => .inl rfl, fun h => by cases h⟩
    go_enter Try.func104, Try.ntmps104
    go_wp2
    go_ret
    exact ⟨.slice none 0 0, [], at_, true, rfl, Own.nil _ _ _, HT.out, grown_of_below (Below.refl _ _) _, HNR.out⟩
  · have hb' : bad = false := by simpa using hb
    subst hb'
    clear hb
    have hcut := fun W : World => run_cut_from (P := Try.prog) Try.underlying22 info_u8 A P.length c at_ hat (at_ : Int) rfl W
    have HLEN := Lib.hid (show (P.drop at_).length = P.length - at_ from List.length_drop ..)
    have hrdc : Rd w g (cutA A at_ c) (cells (P.drop at_)) := by
      have h3 := HT.out.rd.cutA (k := at_) (cap := c) (by rw [cells_length]; exact hat) (by rw [cells_length]; exact hle)
      have e2 : (cells P).drop at_ = cells (P.drop at_) := by simp [cells, List.map_drop]
      rwa [e2] at h3
    have HRDC := Lib.hid hrdc
    have HREL := Lib.hid (row_relR P at_)
    have hu : (takeZ (P.drop at_)).2.1 ≤ P.length - at_ := by have := takeZ_used (P.drop at_); rw [HLEN.out] at this; exact this
    clear hrdc
    go_enter Try.func104, Try.ntmps104
    go_upto_region 3 with fail
    refine wp_region_held_drew (S := fun W => W.cell? ⟨g, 0, none⟩ = some (.slice A P.length c) ∧ W.cell? ⟨g, 1, none⟩ = some (.int .i64 at_) ∧ True ∧ True) (by kernel_rfl) ⟨k0, k1, trivial, trivial⟩ (fun hHeld => ?_)
    refine held_take 0 (v := ?_) (by simp) (by kernel_rfl) (by kernel_rfl) (by kernel_rfl) (fun _ _ _ h => h) (Or.inl ⟨by rfl, ?_⟩) hHeld ?_
    case refine_2 => (intro w hSw; (try dsimp only at hSw); (try (obtain ⟨s0, s1, s2, s3⟩ := hSw)); simp only [List.getElem_cons_zero]; go_simp <;> with_reducible rfl)
    simp only [List.getElem_cons_zero, Act.put, List.setIfInBounds_toArray, List.set_cons_zero, List.set_cons_succ]
    refine held_take 1 (v := ?_) (by simp) (by kernel_rfl) (by kernel_rfl) (by kernel_rfl) (fun _ _ _ h => h) (Or.inl ⟨by rfl, ?_⟩) hHeld ?_
    case refine_2 => (intro w hSw; (try dsimp only at hSw); (try (obtain ⟨s0, s1, s2, s3⟩ := hSw)); simp only [List.getElem_cons_zero, List.getElem_cons_succ]; go_simp <;> with_reducible rfl)
    simp only [List.getElem_cons_zero, List.getElem_cons_succ, Act.put, List.setIfInBounds_toArray, List.set_cons_zero, List.set_cons_succ]
    refine held_take 2 (v := ?_) (by simp) (by kernel_rfl) (by kernel_rfl) (by kernel_rfl) (fun _ _ _ h => h) (Or.inl ⟨by rfl, ?_⟩) hHeld ?_
    case refine_2 => (intro w hSw; (try dsimp only at hSw); (try (obtain ⟨s0, s1, s2, s3⟩ := hSw)); simp only [List.getElem_cons_zero, List.getElem_cons_succ]; go_simp <;> with_reducible rfl)
    simp only [List.getElem_cons_zero, List.getElem_cons_succ, Act.put, List.setIfInBounds_toArray, List.set_cons_zero, List.set_cons_succ]
    refine held_take 3 (v := ?_) (by simp) (by kernel_rfl) (by kernel_rfl) (by kernel_rfl) (fun _ _ _ h => h) (Or.inl ⟨by rfl, ?_⟩) hHeld ?_
    case refine_2 => (intro w hSw; (try dsimp only at hSw); (try (obtain ⟨s0, s1, s2, s3⟩ := hSw)); simp only [List.getElem_cons_zero, List.getElem_cons_succ]; go_simp <;> with_reducible rfl)
    simp only [List.getElem_cons_zero, List.getElem_cons_succ, Act.put, List.setIfInBounds_toArray, List.set_cons_zero, List.set_cons_succ]
    refine held_take 4 (v := ?_) (by simp) (by kernel_rfl) (by kernel_rfl) (by kernel_rfl) (fun _ _ _ h => h) (Or.inl ⟨by rfl, ?_⟩) hHeld ?_
    case refine_2 => (intro w hSw; (try dsimp only at hSw); (try (obtain ⟨s0, s1, s2, s3⟩ := hSw)); simp only [List.getElem_cons_zero, List.getElem_cons_succ]; go_simp <;> with_reducible rfl)
    simp only [List.getElem_cons_zero, List.getElem_cons_succ, Act.put, List.setIfInBounds_toArray, List.set_cons_zero, List.set_cons_succ]
    refine held_take 5 (v := ?_) (by simp) (by kernel_rfl) (by kernel_rfl) (by kernel_rfl) (fun _ _ _ h => h) (Or.inl ⟨by rfl, ?_⟩) hHeld ?_
    case refine_2 => (intro w hSw; (try dsimp only at hSw); (try (obtain ⟨s0, s1, s2, s3⟩ := hSw)); simp only [List.getElem_cons_zero, List.getElem_cons_succ]; go_simp <;> with_reducible rfl)
    simp only [List.getElem_cons_zero, List.getElem_cons_succ, Act.put, List.setIfInBounds_toArray, List.set_cons_zero, List.set_cons_succ]
    refine held_take 6 (v := ?_) (by simp) (by kernel_rfl) (by kernel_rfl) (by kernel_rfl) (fun _ _ _ h => h) (Or.inl ⟨by rfl, ?_⟩) hHeld ?_
    case refine_2 => (intro w hSw; (try dsimp only at hSw); (try (obtain ⟨s0, s1, s2, s3⟩ := hSw)); simp only [List.getElem_cons_zero, List.getElem_cons_succ]; go_simp <;> with_reducible rfl)
    simp only [List.getElem_cons_zero, List.getElem_cons_succ, Act.put, List.setIfInBounds_toArray, List.set_cons_zero, List.set_cons_succ]
    refine held_take 7 (v := ?_) (by simp) (by kernel_rfl) (by kernel_rfl) (by kernel_rfl) (fun _ _ _ h => h) (Or.inl ⟨by rfl, ?_⟩) hHeld ?_
    case refine_2 => (intro w hSw; (try dsimp only at hSw); (try (obtain ⟨s0, s1, s2, s3⟩ := hSw)); simp only [List.getElem_cons_zero, List.getElem_cons_succ]; go_simp <;> with_reducible rfl)
    simp only [List.getElem_cons_zero, List.getElem_cons_succ, Act.put, List.setIfInBounds_toArray, List.set_cons_zero, List.set_cons_succ]
    refine held_take 8 (v := ?_) (by simp) (by kernel_rfl) (by kernel_rfl) (by kernel_rfl) (fun _ _ _ h => h) (Or.inl ⟨by rfl, ?_⟩) hHeld ?_
    case refine_2 => (intro w hSw; (try dsimp only at hSw); (try (obtain ⟨s0, s1, s2, s3⟩ := hSw)); simp only [List.getElem_cons_zero, List.getElem_cons_succ]; go_simp <;> with_reducible rfl)
    simp only [List.getElem_cons_zero, List.getElem_cons_succ, Act.put, List.setIfInBounds_toArray, List.set_cons_zero, List.set_cons_succ]
    refine held_sole 9 (by simp) (by kernel_rfl) (fun K hK => ?_)
    simp only [List.getElem_cons_zero, List.getElem_cons_succ]
    rw [if_pos (by rfl)]
    go_simp
    refine (rtakeInts_tot (cutA A at_ c) (P.drop at_) _ _ HLEN.out.symm w.drew ((show Rd w.drew g _ _ from HRDC.out).more (Nat.le_of_lt hgl)) (by rw [HLEN.out]; omega) (by rw [HLEN.out]; omega)).mono ?_
    rintro e w1 ⟨v, rfl, hv, hb1⟩
    obtain ⟨Av, cv, rfl, -, -, -⟩ := is_shape hv
    have hb1' : Below w.heap.size w w1 := ⟨hb1.os, hb1.tape, hb1.output, hb1.size, hb1.block⟩
    have HT1 := Lib.hid (HT.out.below hb1' hgl)
    have HV1 : Hid (Is w1 w.heap.size _ _) := Lib.hid hv
    have HG1 := Lib.hid hb1'
    obtain ⟨m0, m1, m2, _, _, _⟩ := blk3_at HT1.out.blk
    clear hv hb1 hb1'
    go_wp2_with fail
    refine hK.out _ _ ⟨m0, m1, trivial, trivial⟩ (fun hHeld => ?_)
    clear hK K
    try simp only [Act.put, List.setIfInBounds_toArray, List.set_cons_zero, List.set_cons_succ]
    refine held_take 10 (v := ?_) (by simp) (by kernel_rfl) (by kernel_rfl) (by kernel_rfl) (fun _ _ _ h => h) (Or.inl ⟨by rfl, ?_⟩) hHeld ?_
    case refine_2 => (intro w hSw; (try dsimp only at hSw); (try (obtain ⟨s0, s1, s2, s3⟩ := hSw)); simp only [List.getElem_cons_zero, List.getElem_cons_succ]; go_simp <;> with_reducible rfl)
    simp only [List.getElem_cons_zero, List.getElem_cons_succ, Act.put, List.setIfInBounds_toArray, List.set_cons_zero, List.set_cons_succ]
    refine held_take 11 (v := ?_) (by simp) (by kernel_rfl) (by kernel_rfl) (by kernel_rfl) (fun _ _ _ h => h) (Or.inl ⟨by rfl, ?_⟩) hHeld ?_
    case refine_2 => (intro w hSw; (try dsimp only at hSw); (try (obtain ⟨s0, s1, s2, s3⟩ := hSw)); simp only [List.getElem_cons_zero, List.getElem_cons_succ]; go_simp <;> with_reducible rfl)
    simp only [List.getElem_cons_zero, List.getElem_cons_succ, Act.put, List.setIfInBounds_toArray, List.set_cons_zero, List.set_cons_succ]
    refine held_take 12 (v := ?_) (by simp) (by kernel_rfl) (by kernel_rfl) (by kernel_rfl) (fun _ _ _ h => h) (Or.inl ⟨by rfl, ?_⟩) hHeld ?_
    case refine_2 => (intro w hSw; (try dsimp only at hSw); (try (obtain ⟨s0, s1, s2, s3⟩ := hSw)); simp only [List.getElem_cons_zero, List.getElem_cons_succ]; go_simp <;> with_reducible rfl)
    simp only [List.getElem_cons_zero, List.getElem_cons_succ, Act.put, List.setIfInBounds_toArray, List.set_cons_zero, List.set_cons_succ]
    refine held_take 13 (v := ?_) (by simp) (by kernel_rfl) (by kernel_rfl) (by kernel_rfl) (fun _ _ _ h => h) (Or.inl ⟨by rfl, ?_⟩) hHeld ?_
    case refine_2 => (intro w hSw; (try dsimp only at hSw); (try (obtain ⟨s0, s1, s2, s3⟩ := hSw)); simp only [List.getElem_cons_zero, List.getElem_cons_succ]; go_simp <;> with_reducible rfl)
    simp only [List.getElem_cons_zero, List.getElem_cons_succ, Act.put, List.setIfInBounds_toArray, List.set_cons_zero, List.set_cons_succ]
    refine held_take 14 (v := ?_) (by simp) (by kernel_rfl) (by kernel_rfl) (by kernel_rfl) (fun _ _ _ h => h) (Or.inl ⟨by rfl, ?_⟩) hHeld ?_
    case refine_2 => (intro w hSw; (try dsimp only at hSw); (try (obtain ⟨s0, s1, s2, s3⟩ := hSw)); simp only [List.getElem_cons_zero, List.getElem_cons_succ]; go_simp <;> with_reducible rfl)
    simp only [List.getElem_cons_zero, List.getElem_cons_succ, Act.put, List.setIfInBounds_toArray, List.set_cons_zero, List.set_cons_succ]
    refine held_take 15 (v := ?_) (by simp) (by kernel_rfl) (by kernel_rfl) (by kernel_rfl) (fun _ _ _ h => h) (Or.inl ⟨by rfl, ?_⟩) hHeld ?_
    case refine_2 => (intro w hSw; (try dsimp only at hSw); (try (obtain ⟨s0, s1, s2, s3⟩ := hSw)); simp only [List.getElem_cons_zero, List.getElem_cons_succ]; go_simp <;> with_reducible rfl)
    simp only [List.getElem_cons_zero, List.getElem_cons_succ, Act.put, List.setIfInBounds_toArray, List.set_cons_zero, List.set_cons_succ]
    refine held_take 16 (v := ?_) (by simp) (by kernel_rfl) (by kernel_rfl) (by kernel_rfl) (fun _ _ _ h => h) (Or.inl ⟨by rfl, ?_⟩) hHeld ?_
    case refine_2 => (intro w hSw; (try dsimp only at hSw); (try (obtain ⟨s0, s1, s2, s3⟩ := hSw)); simp only [List.getElem_cons_zero, List.getElem_cons_succ]; go_simp <;> with_reducible rfl)
    simp only [List.getElem_cons_zero, List.getElem_cons_succ, Act.put, List.setIfInBounds_toArray, List.set_cons_zero, List.set_cons_succ]
    refine wpAnyH_done (by kernel_rfl) ?_ _
    clear k0 k1 k2 f0 f1 f2 hcut m0 m1 m2
    obtain ⟨k0, k1, k2, f0, f1, f2⟩ := blk3_at HT1.out.blk
    obtain ⟨z, hz⟩ : ∃ u, u = (takeZ (P.drop at_)).1 := ⟨_, rfl⟩
    obtain ⟨u, hu2⟩ : ∃ u, u = (takeZ (P.drop at_)).2.1 := ⟨_, rfl⟩
    obtain ⟨E, hE⟩ : ∃ u, u = (takeZ (P.drop at_)).2.2 := ⟨_, rfl⟩
    rw [← hz] at HREL HV1 ⊢
    rw [← hu2] at hu HREL ⊢
    rw [← hE] at HREL ⊢
    clear hu2 hE hz
    have hgo : ∀ b : Bool, Hid (TkAt ((w1.setCell ⟨g, 2, none⟩ (.bool b)).setCell ⟨g, 1, none⟩ (.int .i64 (at_ + u : Nat))) g A P c (at_ + u) b ∧ w.grownBy ((w1.setCell ⟨g, 2, none⟩ (.bool b)).setCell ⟨g, 1, none⟩ (.int .i64 (at_ + u : Nat))) (some g) ∧ Is ((w1.setCell ⟨g, 2, none⟩ (.bool b)).setCell ⟨g, 1, none⟩ (.int .i64 (at_ + u : Nat))) w.heap.size (.slice Av z.length cv) z) := fun b =>
      Lib.hid ⟨(HT1.out.set2 b).set1 (at_ + u) (by omega), grown_then (grown_of_below HG1.out (some g)) (grown_then (grown_setCell w1 g 2 _) (grown_setCell _ g 1 _) (.inl rfl)) (.inl rfl), Own.far (Own.far HV1.out (grown_setCell w1 g 2 _) hgl) (grown_setCell _ g 1 _) hgl⟩
    have hsum : ((at_ + u : Nat) : Int) = (at_ : Int) + (u : Int) := by omega
    by_cases h0 : E = 0
    · have HF := hgo false
      rw [hsum] at HF
      have HR0 : Hid (RowRel false (P.drop at_) z false (P.drop (at_ + u))) := Lib.hid (by have h := HREL.out; simpa [h0] using h)
      rw [h0]
      clear hgo hsum h0 HREL
      go_wp2
      go_ret
      exact ⟨.slice Av z.length cv, z, at_ + u, false, rfl, HF.out.2.2, HF.out.1, HF.out.2.1, HR0.out⟩
    · have h0b : (E != 0) = true := by simpa using h0
      have HF := hgo true
      rw [hsum] at HF
      have HR0 : Hid (RowRel false (P.drop at_) z true (P.drop (at_ + u))) := Lib.hid (by have h := HREL.out; simpa [h0] using h)
      clear hgo hsum h0 HREL
      go_wp2
      go_ret
      exact ⟨.slice Av z.length cv, z, at_ + u, true, rfl, HF.out.2.2, HF.out.1, HF.out.2.1, HR0.out⟩
/-- How many: what comes of it. -/
def ManyRel (bad : Bool) (l : List UInt8) (n : Nat) (bad' : Bool) (l' : List UInt8) : Prop := (bad' = true → n = 0 ∧ (bad = true ∨ tkN l = none)) ∧ (bad' = false → bad = false ∧ tkN l = some (n, l') ∧ n ≤ 4096)
set_option maxHeartbeats 2000000 in
set_option maxRecDepth 100000 in
theorem tmany_any (w : World) (g : Nat) (A : Option Addr) (P : List UInt8) (c at_ : Nat) (bad : Bool) (hT : TkAt w g A P c at_ bad) :
    Calls Try.prog 105 #[.pointer (some ⟨g, 0, none⟩)] w fun e w' => ∃ (n at' : Nat) (bad' : Bool), e = .returned (.int .i64 n) ∧ TkAt w' g A P c at' bad' ∧ w.grownBy w' (some g) ∧ ManyRel bad (P.drop at_) n bad' (P.drop at') := by
  have HT := Lib.hid hT
  obtain ⟨k0, k1, k2, f0, f1, f2⟩ := blk3_at hT.blk
  have hgl : g < w.heap.size := hT.blk.lt
  have hat := hT.here
  have hle := hT.le
  have hln := hT.len
  have hcp := hT.cap
  clear hT
  by_cases hb : bad = true
  · subst hb
    have HNR : Hid (ManyRel true (P.drop at_) 0 true (P.drop at_)) := Lib.hid ⟨fun _ => ⟨rfl, .inl rfl⟩, fun h => by cases h⟩
    go_enter Try.func105, Try.ntmps105
    go_wp2
    go_ret
    exact ⟨0, at_, true, rfl, HT.out, grown_of_below (Below.refl _ _) _, HNR.out⟩
  · have hb' : bad = false := by simpa using hb
    subst hb'
    clear hb
    have hcut := fun W : World => run_cut_from (P := Try.prog) Try.underlying22 info_u8 A P.length c at_ hat (at_ : Int) rfl W
    have HLEN := Lib.hid (show (P.drop at_).length = P.length - at_ from List.length_drop ..)
    have hrdc : Rd w g (cutA A at_ c) (cells (P.drop at_)) := by
      have h3 := HT.out.rd.cutA (k := at_) (cap := c) (by rw [cells_length]; exact hat) (by rw [cells_length]; exact hle)
      have e2 : (cells P).drop at_ = cells (P.drop at_) := by simp [cells, List.map_drop]
      rwa [e2] at h3
    have HRDC := Lib.hid hrdc
    have hu : (takeU maxI (P.drop at_)).2.1 ≤ P.length - at_ := by have := takeU_used maxI (P.drop at_); rw [HLEN.out] at this; exact this
    have hnn : (takeU maxI (P.drop at_)).1 ≤ 9223372036854775807 := by have := cnt_le maxI (P.drop at_); unfold maxI at this; exact this
    clear hrdc
    go_enter Try.func105, Try.ntmps105
    go_upto_region 3 with fail
    go_quiet ((go_at_call 27; exact Calls.quiet_of_same (rtakeUint_q _ _ _ _ _ HLEN.out.symm _ HRDC.out (by rw [HLEN.out]; omega) _)))
    have HT1 := Lib.hid (show TkAt (w.drewN nq) g A P c at_ false from ⟨HT.out.blk, HT.out.rd, HT.out.le, HT.out.cap, HT.out.len, HT.out.here⟩)
    have HG1 := Lib.hid (show w.grownBy (w.drewN nq) none from grown_drewN (grown_of_below (Below.refl _ w) none) nq)
    generalize w.drewN nq = w1 at HT1 HG1 ⊢
    clear k0 k1 k2 f0 f1 f2 hcut
    obtain ⟨k0, k1, k2, f0, f1, f2⟩ := blk3_at HT1.out.blk
    have hTN : Hid (tkN (P.drop at_) = if (takeU maxI (P.drop at_)).2.2 = 0 ∧ (takeU maxI (P.drop at_)).1 ≤ 4096 then some ((takeU maxI (P.drop at_)).1, P.drop (at_ + (takeU maxI (P.drop at_)).2.1)) else none) := Lib.hid (by unfold tkN; rw [List.drop_drop])
    obtain ⟨N, hN⟩ : ∃ u, u = (takeU maxI (P.drop at_)).1 := ⟨_, rfl⟩
    obtain ⟨u, hu2⟩ : ∃ u, u = (takeU maxI (P.drop at_)).2.1 := ⟨_, rfl⟩
    obtain ⟨E, hE⟩ : ∃ u, u = (takeU maxI (P.drop at_)).2.2 := ⟨_, rfl⟩
    rw [← hN] at hnn hTN ⊢
    rw [← hu2] at hu hTN ⊢
    rw [← hE] at hTN ⊢
    clear hu2 hE hN
    have hgo : ∀ b : Bool, Hid (TkAt ((w1.setCell ⟨g, 2, none⟩ (.bool b)).setCell ⟨g, 1, none⟩ (.int .i64 (at_ + u : Nat))) g A P c (at_ + u) b ∧ w.grownBy ((w1.setCell ⟨g, 2, none⟩ (.bool b)).setCell ⟨g, 1, none⟩ (.int .i64 (at_ + u : Nat))) (some g)) := fun b =>
      Lib.hid ⟨(HT1.out.set2 b).set1 (at_ + u) (by omega), grown_then (grown_of_below (below_of_grown HG1.out) (some g)) (grown_then (grown_setCell w1 g 2 _) (grown_setCell _ g 1 _) (.inl rfl)) (.inl rfl)⟩
    have hsum : ((at_ + u : Nat) : Int) = (at_ : Int) + (u : Int) := by omega
    by_cases h0 : E = 0
    · by_cases h4 : 4096 < N
      · have h4I : (4096 : Int) < N := by omega
        have HF := hgo true
        rw [hsum] at HF
        have HR0 : Hid (ManyRel false (P.drop at_) 0 true (P.drop (at_ + u))) := Lib.hid ⟨fun _ => ⟨rfl, .inr (by rw [hTN.out, if_neg (by omega)])⟩, fun h => by cases h⟩
        rw [h0]
        clear hgo hsum h0 h4
        go_wp2
        go_ret
        exact ⟨0, at_ + u, true, rfl, HF.out.1, HF.out.2, HR0.out⟩
      · have h4I : decide ((4096 : Int) < N) = false := by simpa using (by omega : (N : Int) ≤ 4096)
        have HF := hgo false
        rw [hsum] at HF
        have HR0 : Hid (ManyRel false (P.drop at_) N false (P.drop (at_ + u))) := Lib.hid ⟨fun h => (by cases h), fun _ => ⟨rfl, by rw [hTN.out, if_pos ⟨h0, by omega⟩], by omega⟩⟩
        rw [h0]
        clear hgo hsum h0 h4
        go_wp2
        go_ret
        exact ⟨N, at_ + u, false, rfl, HF.out.1, HF.out.2, HR0.out⟩
    · have h0b : (E != 0) = true := by simpa using h0
      have HF := hgo true
      rw [hsum] at HF
      have HR0 : Hid (ManyRel false (P.drop at_) 0 true (P.drop (at_ + u))) := Lib.hid ⟨fun _ => ⟨rfl, .inr (by rw [hTN.out, if_neg (by omega)])⟩, fun h => by cases h⟩
      clear hgo hsum h0
      go_wp2
      go_ret
      exact ⟨0, at_ + u, true, rfl, HF.out.1, HF.out.2, HR0.out⟩
end Go.Proofs.Ytaadbklimfngiaa
