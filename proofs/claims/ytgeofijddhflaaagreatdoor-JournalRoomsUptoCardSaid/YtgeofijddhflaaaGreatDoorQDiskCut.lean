/- The program's disk: Arm, Cut. Condition: the disk is a call's own. -/
import Derived.Test.YtgeofijddhflaaaGreatDoorQDiskRm
import Derived.Test.YtgeofijddhflaaaGreatDoorQKeepRPieces
import Derived.Test.YtgeofijddhflaaaGreatDoorQHeld
set_option linter.unusedVariables false
set_option linter.unusedSimpArgs false
namespace Go.Proofs.YtgeofijddhflaaaGreatDoor
open Go.RowKit Go.Maps Go.Sort Oct
theorem Got.cutCap {w : World} {base : Nat} {A : Option Addr} {n c m : Nat} {l : List UInt8} (h : Got w base (.slice A n c) l) (hm : m ≤ l.length) : Got w base (.slice A m m) (l.take m) := by
 obtain ⟨A', c', hv, h1, h2, h3⟩ := h.shape
 injection hv with e1 e2 e3
 subst e1 e3
 have hl : (l.take m).length = m := by rw [List.length_take]; omega
 refine ⟨⟨A, m, by rw [hl], by omega, by omega, by unfold cells; rw [List.map_take]; exact Rd.take h3 m⟩, ?_⟩
 rcases h.row with hr | ⟨g', n', cap, cur, hv', hb, hk, h4, h5, h6⟩
 ·injection hr with r1 r2 r3
  subst r1 r3
  have : m = 0 := by omega
  subst this
  exact .inl rfl
 ·injection hv' with r1 r2 r3
  subst r1 r3
  exact .inr ⟨g', m, m, cur, rfl, hb, hk, by omega, Nat.le_refl _, by omega⟩
section
variable {w w1 w2 w' : World} {base g m : Nat} {p p' : PWD} {room : Int} {es : List (Nm × FE)}
set_option maxHeartbeats 2000000 in
set_option maxRecDepth 100000 in
theorem dcut1_any (h : DiskAt w base g m p room es) {n : Nm} {fe : FE} (hfe : asGet n es = some fe) (k : Nat) (hk : k ≤ fe.f.b.length) (b1 b2 : Nat) (h1 : Blk w b1 81 #[.pointer (some ⟨fe.blk, 0, none⟩)]) (h2 : Blk w b2 3 #[.int .i64 k]) :
  Calls Tryz.prog 108 #[.pointer (some ⟨b1, 0, none⟩), .pointer (some ⟨b2, 0, none⟩)] w fun e w' => e = .returned (.tuple #[]) ∧ DiskTo w base g m es ⟨p, room, asPut n ⟨fe.f.b.take k, min fe.f.safe k⟩ (sec FE.f es)⟩ w' := by
 have hmem := asGet_some hfe
 have hK := h.file _ hmem
 obtain ⟨A, c, hv, hl, hc, hr⟩ := (h.got _ hmem).shape
 have hsf := h.safe _ hmem
 simp only at hK hv hl hr hsf
 have e1 : w.cell? ⟨b1, 0, none⟩ = some (.pointer (some ⟨fe.blk, 0, none⟩)) := h1.cell 0
 have e2 : w.cell? ⟨b2, 0, none⟩ = some (.int .i64 k) := h2.cell 0
 have e3 : w.cell? ⟨fe.blk, 0, none⟩ = some (.slice A fe.f.b.length c) := by rw [← hv]; exact hK.cell 0
 have e4 : w.cell? ⟨fe.blk, 1, none⟩ = some (.int .i64 fe.f.safe) := hK.cell 1
 have f3 : w.frozen? ⟨fe.blk, 0, none⟩ = false := hK.frozen 0
 have f4 : w.frozen? ⟨fe.blk, 1, none⟩ = false := hK.frozen 1
 have hgot : Got w base (.slice A k k) (fe.f.b.take k) := Got.cutCap (by rw [← hv]; exact h.got _ hmem) hk
 have hfin : ∀ n1, DiskTo w base g m es ⟨p, room, asPut n ⟨fe.f.b.take k, min fe.f.safe k⟩ (sec FE.f es)⟩ (((w.drewN n1).setCell ⟨fe.blk, 0, none⟩ (.slice A k k)).setCell ⟨fe.blk, 1, none⟩ (.int .i64 (min fe.f.safe k : Nat))) := fun n1 => by
  have hgr := grown_then (grown_setCell (w.drewN n1) fe.blk 0 (.slice A k k)) (grown_setCell ((w.drewN n1).setCell ⟨fe.blk, 0, none⟩ (.slice A k k)) fe.blk 1 (.int .i64 (min fe.f.safe k : Nat))) (.inl rfl)
  refine DiskTo.file_set h (Fr.refl _ _) hfe (.slice A k k) ⟨fe.f.b.take k, min fe.f.safe k⟩ (by simp) (Blk.set_ (Blk.set_ (hK.drewN n1) 0 _) 1 _) (hgot.kept (fun i hi => ?_) (by simp)) (by simp only [List.length_take]; omega) (fun i hi => .inl (by rw [hv]; cases A <;> exact hi)) (fun i hi hne _ => ?_) ⟨hgr.os, hgr.tape, hgr.output⟩
  ·refine hgr.block i (hgot.row.lt i hi) (fun e => ?_)
   injection e with e
   exact got_blk_ne hgot hK (by decide) (by rw [hi, e])
  ·exact hgr.block i hi (fun e => hne (by injection e))
 have HFIN := Lib.hid hfin
 have hkc : k ≤ c := by omega
 have hcut := fun W : World => run_cut_lhm (P := Tryz.prog) Tryz.underlying34 info_u8 A fe.f.b.length c 0 k (by omega) (by omega) 0 (k : Int) rfl rfl W
 have HSF := Lib.hid hsf
 have HNE := Lib.hid (And.intro (blk_ne hK h1 (by decide)) (blk_ne hK h2 (by decide)))
 clear h h1 h2 hfe hmem hK hv hr hgot hfin hsf
 go_enter Tryz.func108, Tryz.ntmps108
 go_wp2_with fail
 have hd : DiskTo w base g m es ⟨p, room, asPut n ⟨fe.f.b.take k, min fe.f.safe k⟩ (sec FE.f es)⟩ ((w.drew.setCell ⟨fe.blk, 0, none⟩ (.slice A k k)).setCell ⟨fe.blk, 1, none⟩ (.int .i64 (min fe.f.safe k : Nat))) := HFIN.out 1
 have HD := Lib.hid hd
 have hn1 : (⟨fe.blk, 0, none⟩ : Addr) ≠ ⟨fe.blk, 1, none⟩ := by intro e; injection e with _ e; omega
 have hn2 : (⟨fe.blk, 0, none⟩ : Addr) ≠ ⟨b1, 0, none⟩ := by intro e; injection e with e; exact HNE.out.1 e
 have hn3 : (⟨fe.blk, 0, none⟩ : Addr) ≠ ⟨b2, 0, none⟩ := by intro e; injection e with e; exact HNE.out.2 e
 have g1 : (w.drew.setCell ⟨fe.blk, 0, none⟩ (.slice A k k)).cell? ⟨b1, 0, none⟩ = some (.pointer (some ⟨fe.blk, 0, none⟩)) := by rw [World.cell?_setCell_other (h := hn2)]; exact e1
 have g2 : (w.drew.setCell ⟨fe.blk, 0, none⟩ (.slice A k k)).cell? ⟨b2, 0, none⟩ = some (.int .i64 k) := by rw [World.cell?_setCell_other (h := hn3)]; exact e2
 have g4 : (w.drew.setCell ⟨fe.blk, 0, none⟩ (.slice A k k)).cell? ⟨fe.blk, 1, none⟩ = some (.int .i64 fe.f.safe) := by rw [World.cell?_setCell_other (h := hn1)]; exact e4
 have gf : (w.drew.setCell ⟨fe.blk, 0, none⟩ (.slice A k k)).frozen? ⟨fe.blk, 1, none⟩ = false := by rw [World.frozen?_setCell]; exact f4
 clear hd hn1 hn2 hn3 HFIN
 by_cases hms : (fe.f.safe : Int) ≤ (k : Int)
 ·refine wp_region_heldT 20 (by kernel_rfl) (S := fun W => W.cell? ⟨b1, 0, none⟩ = some (.pointer (some ⟨fe.blk, 0, none⟩)) ∧ W.cell? ⟨b2, 0, none⟩ = some (.int .i64 k) ∧ W.cell? ⟨fe.blk, 1, none⟩ = some (.int .i64 fe.f.safe) ∧ True) ⟨e1, e2, e4, trivial⟩ (fun hHeld => ?_)
  refine heldT_take 0 (v := ?_) (by simp) (by kernel_rfl) (by kernel_rfl) (by kernel_rfl) (by kernel_rfl) (fun _ _ _ h => h) (Or.inl ⟨by rfl, ?_⟩) hHeld ?_
  case refine_2 => (intro w hSw; (try dsimp only at hSw); (try (obtain ⟨s0, s1, s2, s3⟩ := hSw)); simp only [List.getElem_cons_zero]; go_simp <;> with_reducible rfl)
  simp only [List.getElem_cons_zero, Act.put, List.setIfInBounds_toArray, List.set_cons_zero, List.set_cons_succ]
  refine heldT_take 1 (v := ?_) (by simp) (by kernel_rfl) (by kernel_rfl) (by kernel_rfl) (by kernel_rfl) (fun _ _ _ h => h) (Or.inl ⟨by rfl, ?_⟩) hHeld ?_
  case refine_2 => (intro w hSw; (try dsimp only at hSw); (try (obtain ⟨s0, s1, s2, s3⟩ := hSw)); simp only [List.getElem_cons_zero, List.getElem_cons_succ]; go_simp <;> with_reducible rfl)
  simp only [List.getElem_cons_zero, List.getElem_cons_succ, Act.put, List.setIfInBounds_toArray, List.set_cons_zero, List.set_cons_succ]
  refine heldT_take 2 (v := ?_) (by simp) (by kernel_rfl) (by kernel_rfl) (by kernel_rfl) (by kernel_rfl) (fun _ _ _ h => h) (Or.inl ⟨by rfl, ?_⟩) hHeld ?_
  case refine_2 => (intro w hSw; (try dsimp only at hSw); (try (obtain ⟨s0, s1, s2, s3⟩ := hSw)); simp only [List.getElem_cons_zero, List.getElem_cons_succ]; go_simp <;> with_reducible rfl)
  simp only [List.getElem_cons_zero, List.getElem_cons_succ, Act.put, List.setIfInBounds_toArray, List.set_cons_zero, List.set_cons_succ]
  refine heldT_take 3 (v := ?_) (by simp) (by kernel_rfl) (by kernel_rfl) (by kernel_rfl) (by kernel_rfl) (fun _ _ _ h => h) (Or.inl ⟨by rfl, ?_⟩) hHeld ?_
  case refine_2 => (intro w hSw; (try dsimp only at hSw); (try (obtain ⟨s0, s1, s2, s3⟩ := hSw)); simp only [List.getElem_cons_zero, List.getElem_cons_succ]; go_simp <;> with_reducible rfl)
  simp only [List.getElem_cons_zero, List.getElem_cons_succ, Act.put, List.setIfInBounds_toArray, List.set_cons_zero, List.set_cons_succ]
  refine heldT_take 4 (v := ?_) (by simp) (by kernel_rfl) (by kernel_rfl) (by kernel_rfl) (by kernel_rfl) (fun _ _ _ h => h) (Or.inl ⟨by rfl, ?_⟩) hHeld ?_
  case refine_2 => (intro w hSw; (try dsimp only at hSw); (try (obtain ⟨s0, s1, s2, s3⟩ := hSw)); simp only [List.getElem_cons_zero, List.getElem_cons_succ]; go_simp <;> with_reducible rfl)
  simp only [List.getElem_cons_zero, List.getElem_cons_succ, Act.put, List.setIfInBounds_toArray, List.set_cons_zero, List.set_cons_succ]
  refine heldT_take 6 (v := ?_) (by simp) (by kernel_rfl) (by kernel_rfl) (by kernel_rfl) (by kernel_rfl) (fun _ _ _ h => h) (Or.inl ⟨by rfl, ?_⟩) hHeld ?_
  case refine_2 => (intro w hSw; (try dsimp only at hSw); (try (obtain ⟨s0, s1, s2, s3⟩ := hSw)); simp only [List.getElem_cons_zero, List.getElem_cons_succ]; go_simp <;> with_reducible rfl)
  simp only [List.getElem_cons_zero, List.getElem_cons_succ, Act.put, List.setIfInBounds_toArray, List.set_cons_zero, List.set_cons_succ]
  refine heldT_take 7 (v := ?_) (by simp) (by kernel_rfl) (by kernel_rfl) (by kernel_rfl) (by kernel_rfl) (fun _ _ _ h => h) (Or.inl ⟨by rfl, ?_⟩) hHeld ?_
  case refine_2 => (intro w hSw; (try dsimp only at hSw); (try (obtain ⟨s0, s1, s2, s3⟩ := hSw)); simp only [List.getElem_cons_zero, List.getElem_cons_succ]; go_simp <;> with_reducible rfl)
  simp only [List.getElem_cons_zero, List.getElem_cons_succ, Act.put, List.setIfInBounds_toArray, List.set_cons_zero, List.set_cons_succ]
  refine heldT_take 9 (v := ?_) (by simp) (by kernel_rfl) (by kernel_rfl) (by kernel_rfl) (by kernel_rfl) (fun _ _ _ h => h) (Or.inl ⟨by rfl, ?_⟩) hHeld ?_
  case refine_2 => (intro w hSw; (try dsimp only at hSw); (try (obtain ⟨s0, s1, s2, s3⟩ := hSw)); simp only [List.getElem_cons_zero, List.getElem_cons_succ]; go_simp <;> with_reducible rfl)
  simp only [List.getElem_cons_zero, List.getElem_cons_succ, Act.put, List.setIfInBounds_toArray, List.set_cons_zero, List.set_cons_succ]
  refine heldT_take 10 (v := ?_) (by simp) (by kernel_rfl) (by kernel_rfl) (by kernel_rfl) (by kernel_rfl) (fun _ _ _ h => h) (Or.inl ⟨by rfl, ?_⟩) hHeld ?_
  case refine_2 => (intro w hSw; (try dsimp only at hSw); (try (obtain ⟨s0, s1, s2, s3⟩ := hSw)); simp only [List.getElem_cons_zero, List.getElem_cons_succ]; go_simp <;> with_reducible rfl)
  simp only [List.getElem_cons_zero, List.getElem_cons_succ, Act.put, List.setIfInBounds_toArray, List.set_cons_zero, List.set_cons_succ]
  refine heldT_take 11 (v := ?_) (by simp) (by kernel_rfl) (by kernel_rfl) (by kernel_rfl) (by kernel_rfl) (fun _ _ _ h => h) (Or.inl ⟨by rfl, ?_⟩) hHeld ?_
  case refine_2 => (intro w hSw; (try dsimp only at hSw); (try (obtain ⟨s0, s1, s2, s3⟩ := hSw)); simp only [List.getElem_cons_zero, List.getElem_cons_succ]; go_simp <;> with_reducible rfl)
  simp only [List.getElem_cons_zero, List.getElem_cons_succ, Act.put, List.setIfInBounds_toArray, List.set_cons_zero, List.set_cons_succ]
  refine heldT_take 12 (v := ?_) (by simp) (by kernel_rfl) (by kernel_rfl) (by kernel_rfl) (by kernel_rfl) (fun _ _ _ h => h) (Or.inl ⟨by rfl, ?_⟩) hHeld ?_
  case refine_2 => (intro w hSw; (try dsimp only at hSw); (try (obtain ⟨s0, s1, s2, s3⟩ := hSw)); simp only [List.getElem_cons_zero, List.getElem_cons_succ]; go_simp <;> with_reducible rfl)
  simp only [List.getElem_cons_zero, List.getElem_cons_succ, Act.put, List.setIfInBounds_toArray, List.set_cons_zero, List.set_cons_succ]
  refine heldT_take 13 (v := ?_) (by simp) (by kernel_rfl) (by kernel_rfl) (by kernel_rfl) (by kernel_rfl) (fun _ _ _ h => h) (Or.inl ⟨by rfl, ?_⟩) hHeld ?_
  case refine_2 => (intro w hSw; (try dsimp only at hSw); (try (obtain ⟨s0, s1, s2, s3⟩ := hSw)); simp only [List.getElem_cons_zero, List.getElem_cons_succ]; go_simp <;> with_reducible rfl)
  simp only [List.getElem_cons_zero, List.getElem_cons_succ, Act.put, List.setIfInBounds_toArray, List.set_cons_zero, List.set_cons_succ]
  refine heldT_take 14 (v := ?_) (by simp) (by kernel_rfl) (by kernel_rfl) (by kernel_rfl) (by kernel_rfl) (fun _ _ _ h => h) (Or.inl ⟨by rfl, ?_⟩) hHeld ?_
  case refine_2 => (intro w hSw; (try dsimp only at hSw); (try (obtain ⟨s0, s1, s2, s3⟩ := hSw)); simp only [List.getElem_cons_zero, List.getElem_cons_succ]; go_simp <;> with_reducible rfl)
  simp only [List.getElem_cons_zero, List.getElem_cons_succ, Act.put, List.setIfInBounds_toArray, List.set_cons_zero, List.set_cons_succ]
  refine heldT_sole 5 (by simp) (by kernel_rfl) (fun K hK => ?_)
  simp only [List.getElem_cons_zero, List.getElem_cons_succ]
  go_simp
  refine hK.out _ _ ⟨e1, e2, e4, trivial⟩ (fun hHeld => ?_)
  clear hK K
  try simp only [Act.put, List.setIfInBounds_toArray, List.set_cons_zero, List.set_cons_succ]
  refine heldT_sole 8 (by simp) (by kernel_rfl) (fun K hK => ?_)
  simp only [List.getElem_cons_zero, List.getElem_cons_succ]
  go_simp
  refine hK.out _ _ ⟨e1, e2, e4, trivial⟩ (fun hHeld => ?_)
  clear hK K
  try simp only [Act.put, List.setIfInBounds_toArray, List.set_cons_zero, List.set_cons_succ]
  refine heldT_sole 15 (by simp) (by kernel_rfl) (fun K hK => ?_)
  simp only [List.getElem_cons_zero, List.getElem_cons_succ]
  go_simp
  refine hK.out _ _ ⟨e1, e2, e4, trivial⟩ (fun hHeld => ?_)
  clear hK K
  try simp only [Act.put, List.setIfInBounds_toArray, List.set_cons_zero, List.set_cons_succ]
  refine heldT_sole 16 (by simp) (by kernel_rfl) (fun K hK => ?_)
  simp only [List.getElem_cons_zero, List.getElem_cons_succ]
  go_simp
  refine hK.out _ _ ⟨e1, e2, e4, trivial⟩ (fun hHeld => ?_)
  clear hK K
  try simp only [Act.put, List.setIfInBounds_toArray, List.set_cons_zero, List.set_cons_succ]
  refine heldT_sole 17 (by simp) (by kernel_rfl) (fun K hK => ?_)
  simp only [List.getElem_cons_zero, List.getElem_cons_succ]
  go_simp
  refine hK.out _ _ ⟨g1, g2, g4, trivial⟩ (fun hHeld => ?_)
  clear hK K
  try simp only [Act.put, List.setIfInBounds_toArray, List.set_cons_zero, List.set_cons_succ]
  refine heldT_sole 18 (by simp) (by kernel_rfl) (fun K hK => ?_)
  simp only [List.getElem_cons_zero, List.getElem_cons_succ]
  go_simp
  refine hK.out _ _ ⟨g1, g2, g4, trivial⟩ (fun hHeld => ?_)
  clear hK K
  try simp only [Act.put, List.setIfInBounds_toArray, List.set_cons_zero, List.set_cons_succ]
  refine heldT_sole 19 (by simp) (by kernel_rfl) (fun K hK => ?_)
  simp only [List.getElem_cons_zero, List.getElem_cons_succ]
  go_simp
  refine hK.out _ _ ⟨g1, g2, g4, trivial⟩ (fun hHeld => ?_)
  clear hK K
  try simp only [Act.put, List.setIfInBounds_toArray, List.set_cons_zero, List.set_cons_succ]
  refine heldT_last (t := 20) (by simp) (by kernel_rfl) (by kernel_rfl) (fun K hK => ?_)
  simp only [List.getElem_cons_zero, List.getElem_cons_succ]
  go_simp
  refine hK.out _ _ ?_
  clear hK K hHeld
  rw [show min fe.f.safe k = fe.f.safe by omega] at HD
  go_wp2_with fail
  go_end0
  refine ⟨rfl, ?_⟩
  rw [show min fe.f.safe k = fe.f.safe by omega]
  exact HD.out
 ·refine wp_region_heldT 20 (by kernel_rfl) (S := fun W => W.cell? ⟨b1, 0, none⟩ = some (.pointer (some ⟨fe.blk, 0, none⟩)) ∧ W.cell? ⟨b2, 0, none⟩ = some (.int .i64 k) ∧ W.cell? ⟨fe.blk, 1, none⟩ = some (.int .i64 fe.f.safe) ∧ True) ⟨e1, e2, e4, trivial⟩ (fun hHeld => ?_)
  refine heldT_take 0 (v := ?_) (by simp) (by kernel_rfl) (by kernel_rfl) (by kernel_rfl) (by kernel_rfl) (fun _ _ _ h => h) (Or.inl ⟨by rfl, ?_⟩) hHeld ?_
  case refine_2 => (intro w hSw; (try dsimp only at hSw); (try (obtain ⟨s0, s1, s2, s3⟩ := hSw)); simp only [List.getElem_cons_zero]; go_simp <;> with_reducible rfl)
  simp only [List.getElem_cons_zero, Act.put, List.setIfInBounds_toArray, List.set_cons_zero, List.set_cons_succ]
  refine heldT_take 1 (v := ?_) (by simp) (by kernel_rfl) (by kernel_rfl) (by kernel_rfl) (by kernel_rfl) (fun _ _ _ h => h) (Or.inl ⟨by rfl, ?_⟩) hHeld ?_
  case refine_2 => (intro w hSw; (try dsimp only at hSw); (try (obtain ⟨s0, s1, s2, s3⟩ := hSw)); simp only [List.getElem_cons_zero, List.getElem_cons_succ]; go_simp <;> with_reducible rfl)
  simp only [List.getElem_cons_zero, List.getElem_cons_succ, Act.put, List.setIfInBounds_toArray, List.set_cons_zero, List.set_cons_succ]
  refine heldT_take 2 (v := ?_) (by simp) (by kernel_rfl) (by kernel_rfl) (by kernel_rfl) (by kernel_rfl) (fun _ _ _ h => h) (Or.inl ⟨by rfl, ?_⟩) hHeld ?_
  case refine_2 => (intro w hSw; (try dsimp only at hSw); (try (obtain ⟨s0, s1, s2, s3⟩ := hSw)); simp only [List.getElem_cons_zero, List.getElem_cons_succ]; go_simp <;> with_reducible rfl)
  simp only [List.getElem_cons_zero, List.getElem_cons_succ, Act.put, List.setIfInBounds_toArray, List.set_cons_zero, List.set_cons_succ]
  refine heldT_take 3 (v := ?_) (by simp) (by kernel_rfl) (by kernel_rfl) (by kernel_rfl) (by kernel_rfl) (fun _ _ _ h => h) (Or.inl ⟨by rfl, ?_⟩) hHeld ?_
  case refine_2 => (intro w hSw; (try dsimp only at hSw); (try (obtain ⟨s0, s1, s2, s3⟩ := hSw)); simp only [List.getElem_cons_zero, List.getElem_cons_succ]; go_simp <;> with_reducible rfl)
  simp only [List.getElem_cons_zero, List.getElem_cons_succ, Act.put, List.setIfInBounds_toArray, List.set_cons_zero, List.set_cons_succ]
  refine heldT_take 4 (v := ?_) (by simp) (by kernel_rfl) (by kernel_rfl) (by kernel_rfl) (by kernel_rfl) (fun _ _ _ h => h) (Or.inl ⟨by rfl, ?_⟩) hHeld ?_
  case refine_2 => (intro w hSw; (try dsimp only at hSw); (try (obtain ⟨s0, s1, s2, s3⟩ := hSw)); simp only [List.getElem_cons_zero, List.getElem_cons_succ]; go_simp <;> with_reducible rfl)
  simp only [List.getElem_cons_zero, List.getElem_cons_succ, Act.put, List.setIfInBounds_toArray, List.set_cons_zero, List.set_cons_succ]
  refine heldT_take 6 (v := ?_) (by simp) (by kernel_rfl) (by kernel_rfl) (by kernel_rfl) (by kernel_rfl) (fun _ _ _ h => h) (Or.inl ⟨by rfl, ?_⟩) hHeld ?_
  case refine_2 => (intro w hSw; (try dsimp only at hSw); (try (obtain ⟨s0, s1, s2, s3⟩ := hSw)); simp only [List.getElem_cons_zero, List.getElem_cons_succ]; go_simp <;> with_reducible rfl)
  simp only [List.getElem_cons_zero, List.getElem_cons_succ, Act.put, List.setIfInBounds_toArray, List.set_cons_zero, List.set_cons_succ]
  refine heldT_take 7 (v := ?_) (by simp) (by kernel_rfl) (by kernel_rfl) (by kernel_rfl) (by kernel_rfl) (fun _ _ _ h => h) (Or.inl ⟨by rfl, ?_⟩) hHeld ?_
  case refine_2 => (intro w hSw; (try dsimp only at hSw); (try (obtain ⟨s0, s1, s2, s3⟩ := hSw)); simp only [List.getElem_cons_zero, List.getElem_cons_succ]; go_simp <;> with_reducible rfl)
  simp only [List.getElem_cons_zero, List.getElem_cons_succ, Act.put, List.setIfInBounds_toArray, List.set_cons_zero, List.set_cons_succ]
  refine heldT_take 9 (v := ?_) (by simp) (by kernel_rfl) (by kernel_rfl) (by kernel_rfl) (by kernel_rfl) (fun _ _ _ h => h) (Or.inl ⟨by rfl, ?_⟩) hHeld ?_
  case refine_2 => (intro w hSw; (try dsimp only at hSw); (try (obtain ⟨s0, s1, s2, s3⟩ := hSw)); simp only [List.getElem_cons_zero, List.getElem_cons_succ]; go_simp <;> with_reducible rfl)
  simp only [List.getElem_cons_zero, List.getElem_cons_succ, Act.put, List.setIfInBounds_toArray, List.set_cons_zero, List.set_cons_succ]
  refine heldT_take 10 (v := ?_) (by simp) (by kernel_rfl) (by kernel_rfl) (by kernel_rfl) (by kernel_rfl) (fun _ _ _ h => h) (Or.inl ⟨by rfl, ?_⟩) hHeld ?_
  case refine_2 => (intro w hSw; (try dsimp only at hSw); (try (obtain ⟨s0, s1, s2, s3⟩ := hSw)); simp only [List.getElem_cons_zero, List.getElem_cons_succ]; go_simp <;> with_reducible rfl)
  simp only [List.getElem_cons_zero, List.getElem_cons_succ, Act.put, List.setIfInBounds_toArray, List.set_cons_zero, List.set_cons_succ]
  refine heldT_take 11 (v := ?_) (by simp) (by kernel_rfl) (by kernel_rfl) (by kernel_rfl) (by kernel_rfl) (fun _ _ _ h => h) (Or.inl ⟨by rfl, ?_⟩) hHeld ?_
  case refine_2 => (intro w hSw; (try dsimp only at hSw); (try (obtain ⟨s0, s1, s2, s3⟩ := hSw)); simp only [List.getElem_cons_zero, List.getElem_cons_succ]; go_simp <;> with_reducible rfl)
  simp only [List.getElem_cons_zero, List.getElem_cons_succ, Act.put, List.setIfInBounds_toArray, List.set_cons_zero, List.set_cons_succ]
  refine heldT_take 12 (v := ?_) (by simp) (by kernel_rfl) (by kernel_rfl) (by kernel_rfl) (by kernel_rfl) (fun _ _ _ h => h) (Or.inl ⟨by rfl, ?_⟩) hHeld ?_
  case refine_2 => (intro w hSw; (try dsimp only at hSw); (try (obtain ⟨s0, s1, s2, s3⟩ := hSw)); simp only [List.getElem_cons_zero, List.getElem_cons_succ]; go_simp <;> with_reducible rfl)
  simp only [List.getElem_cons_zero, List.getElem_cons_succ, Act.put, List.setIfInBounds_toArray, List.set_cons_zero, List.set_cons_succ]
  refine heldT_take 13 (v := ?_) (by simp) (by kernel_rfl) (by kernel_rfl) (by kernel_rfl) (by kernel_rfl) (fun _ _ _ h => h) (Or.inl ⟨by rfl, ?_⟩) hHeld ?_
  case refine_2 => (intro w hSw; (try dsimp only at hSw); (try (obtain ⟨s0, s1, s2, s3⟩ := hSw)); simp only [List.getElem_cons_zero, List.getElem_cons_succ]; go_simp <;> with_reducible rfl)
  simp only [List.getElem_cons_zero, List.getElem_cons_succ, Act.put, List.setIfInBounds_toArray, List.set_cons_zero, List.set_cons_succ]
  refine heldT_take 14 (v := ?_) (by simp) (by kernel_rfl) (by kernel_rfl) (by kernel_rfl) (by kernel_rfl) (fun _ _ _ h => h) (Or.inl ⟨by rfl, ?_⟩) hHeld ?_
  case refine_2 => (intro w hSw; (try dsimp only at hSw); (try (obtain ⟨s0, s1, s2, s3⟩ := hSw)); simp only [List.getElem_cons_zero, List.getElem_cons_succ]; go_simp <;> with_reducible rfl)
  simp only [List.getElem_cons_zero, List.getElem_cons_succ, Act.put, List.setIfInBounds_toArray, List.set_cons_zero, List.set_cons_succ]
  refine heldT_sole 5 (by simp) (by kernel_rfl) (fun K hK => ?_)
  simp only [List.getElem_cons_zero, List.getElem_cons_succ]
  go_simp
  refine hK.out _ _ ⟨e1, e2, e4, trivial⟩ (fun hHeld => ?_)
  clear hK K
  try simp only [Act.put, List.setIfInBounds_toArray, List.set_cons_zero, List.set_cons_succ]
  refine heldT_sole 8 (by simp) (by kernel_rfl) (fun K hK => ?_)
  simp only [List.getElem_cons_zero, List.getElem_cons_succ]
  go_simp
  refine hK.out _ _ ⟨e1, e2, e4, trivial⟩ (fun hHeld => ?_)
  clear hK K
  try simp only [Act.put, List.setIfInBounds_toArray, List.set_cons_zero, List.set_cons_succ]
  refine heldT_sole 15 (by simp) (by kernel_rfl) (fun K hK => ?_)
  simp only [List.getElem_cons_zero, List.getElem_cons_succ]
  go_simp
  refine hK.out _ _ ⟨e1, e2, e4, trivial⟩ (fun hHeld => ?_)
  clear hK K
  try simp only [Act.put, List.setIfInBounds_toArray, List.set_cons_zero, List.set_cons_succ]
  refine heldT_sole 16 (by simp) (by kernel_rfl) (fun K hK => ?_)
  simp only [List.getElem_cons_zero, List.getElem_cons_succ]
  go_simp
  refine hK.out _ _ ⟨e1, e2, e4, trivial⟩ (fun hHeld => ?_)
  clear hK K
  try simp only [Act.put, List.setIfInBounds_toArray, List.set_cons_zero, List.set_cons_succ]
  refine heldT_sole 17 (by simp) (by kernel_rfl) (fun K hK => ?_)
  simp only [List.getElem_cons_zero, List.getElem_cons_succ]
  go_simp
  refine hK.out _ _ ⟨g1, g2, g4, trivial⟩ (fun hHeld => ?_)
  clear hK K
  try simp only [Act.put, List.setIfInBounds_toArray, List.set_cons_zero, List.set_cons_succ]
  refine heldT_sole 18 (by simp) (by kernel_rfl) (fun K hK => ?_)
  simp only [List.getElem_cons_zero, List.getElem_cons_succ]
  go_simp
  refine hK.out _ _ ⟨g1, g2, g4, trivial⟩ (fun hHeld => ?_)
  clear hK K
  try simp only [Act.put, List.setIfInBounds_toArray, List.set_cons_zero, List.set_cons_succ]
  refine heldT_sole 19 (by simp) (by kernel_rfl) (fun K hK => ?_)
  simp only [List.getElem_cons_zero, List.getElem_cons_succ]
  go_simp
  refine hK.out _ _ ⟨g1, g2, g4, trivial⟩ (fun hHeld => ?_)
  clear hK K
  try simp only [Act.put, List.setIfInBounds_toArray, List.set_cons_zero, List.set_cons_succ]
  refine heldT_last (t := 20) (by simp) (by kernel_rfl) (by kernel_rfl) (fun K hK => ?_)
  simp only [List.getElem_cons_zero, List.getElem_cons_succ]
  go_simp
  refine hK.out _ _ ?_
  clear hK K hHeld
  rw [show min fe.f.safe k = k by omega] at HD
  go_wp2_with fail
  go_end0
  refine ⟨rfl, ?_⟩
  rw [show min fe.f.safe k = k by omega]
  exact HD.out
set_option maxHeartbeats 2000000 in
set_option maxRecDepth 100000 in
theorem whole_cut (h : DiskAt w base g m p room es) {n : Nm} {fe : FE} (hfe : asGet n es = some fe) (k : Nat) (hk : k ≤ fe.f.b.length) (b1 b2 : Nat) (h1 : Blk w b1 81 #[.pointer (some ⟨fe.blk, 0, none⟩)]) (h2 : Blk w b2 3 #[.int .i64 k]) (fs : List (Nm × FD)) (hfs : fs = asPut n ⟨fe.f.b.take k, min fe.f.safe k⟩ (sec FE.f es)) :
  Calls Tryz.prog 107 #[.pointer (some ⟨g, 0, none⟩), .func (.func 108) #[] #[.pointer (some ⟨b1, 0, none⟩), .pointer (some ⟨b2, 0, none⟩)]] w fun e w' => e = .returned (.int .i64 ((dkOf p room es).whole fs).1) ∧ DiskTo w base g m es ((dkOf p room es).whole fs).2 w' := by
 have hcut := Lib.hid (dcut_any h)
 have HB := Lib.hid (And.intro h (And.intro h1 h2))
 obtain ⟨c, hc⟩ : ∃ c, c = p.cut := ⟨_, rfl⟩
 obtain ⟨gone, part, p'⟩ := c
 rw [← hc] at hcut
 have HDO : ∀ w1, DiskAt w1 base g m p' room es → Fr (DFoot g m es) w w1 → Hid (Calls Tryz.prog 108 #[.pointer (some ⟨b1, 0, none⟩), .pointer (some ⟨b2, 0, none⟩)] w1 fun e w' => e = .returned (.tuple #[]) ∧ DiskTo w base g m es ⟨p', room, fs⟩ w') := fun w1 hD hF => Lib.hid (by
  obtain ⟨h, k0, k1⟩ := HB.out
  refine (dcut1_any hD hfe k hk b1 b2 (hF.blk_ k0 (h.not_foot k0 (by decide) (by decide) (by decide))) (hF.blk_ k1 (h.not_foot k1 (by decide) (by decide) (by decide)))).mono ?_
  rintro e w' ⟨rfl, h4⟩
  refine ⟨rfl, ?_⟩
  rw [hfs]
  exact DiskTo.step hF (fun k hk => .inl hk) h4)
 cases gone with
 | false =>
  have e : (dkOf p room es).whole fs = (0, ⟨p', room, fs⟩) := by unfold DkD.whole; rw [← hc]; simp
  rw [e]
  clear h e hc HB hfs
  go_enter Tryz.func107, Tryz.ntmps107
  go_wp2_with fail
  refine hcut.out.mono ?_
  rintro e w1 ⟨rfl, hD, hF, hsz⟩
  have hdo := HDO w1 hD hF
  clear hD hF hsz hcut HDO
  go_wp2_with fail
  refine hdo.out.mono ?_
  rintro e w2 ⟨rfl, hT⟩
  have HT := Lib.hid hT
  clear hT hdo
  go_wp2_with fail
  go_ret
  exact ⟨rfl, HT.out⟩
 | true =>
  by_cases hp : part % 2 = 0
  ·have e : (dkOf p room es).whole fs = (50, dkOf p' room es) := by unfold DkD.whole; rw [← hc]; simp [hp]
   rw [e]
   have hpt2 : part.tmod 2 = 0 := (tmod2 part).2 hp
   have hpt : (part.tmod 2 != 0) = false := by simp [hpt2]
   clear h e hc HB HDO hp hfs
   go_enter Tryz.func107, Tryz.ntmps107
   go_wp2_with fail
   refine hcut.out.mono ?_
   rintro e w1 ⟨rfl, hD, hF, hsz⟩
   have HT := Lib.hid (DiskTo.mk' hD hF)
   clear hD hF hsz hcut
   go_wp2_with fail
   go_ret
   exact ⟨rfl, HT.out⟩
  ·have e : (dkOf p room es).whole fs = (50, ⟨p', room, fs⟩) := by unfold DkD.whole; rw [← hc]; simp [hp]
   rw [e]
   have hpt2 : ¬ part.tmod 2 = 0 := fun e => hp ((tmod2 part).1 e)
   have hpt : (part.tmod 2 != 0) = true := by simpa using hpt2
   clear h e hc HB hp hfs
   go_enter Tryz.func107, Tryz.ntmps107
   go_wp2_with fail
   refine hcut.out.mono ?_
   rintro e w1 ⟨rfl, hD, hF, hsz⟩
   have hdo := HDO w1 hD hF
   clear hD hF hsz hcut HDO
   go_wp2_with fail
   refine hdo.out.mono ?_
   rintro e w2 ⟨rfl, hT⟩
   have HT := Lib.hid hT
   clear hT hdo
   go_wp2_with fail
   go_ret
   exact ⟨rfl, HT.out⟩
set_option maxHeartbeats 2000000 in
set_option maxRecDepth 100000 in
theorem dcutF_any (h : DiskAt w base g m p room es) (s : ByteArray) (hs : s.size ≤ 140737488351232) (z : Int) (hz : -9223372036854775808 ≤ z ∧ z ≤ 9223372036854775807) :
  Calls Tryz.prog 55 #[.pointer (some ⟨g, 0, none⟩), .string s, .int .i64 z] w fun e w' => e = .returned (.int .i64 ((dkOf p room es).cutF s.data.toList z).1) ∧ DiskTo w base g m es ((dkOf p room es).cutF s.data.toList z).2 w' := by
 have hbA := (Below.refl w.heap.size w).alloc (Nat.le_refl _) (.cells #[.int .i64 z] 3)
 have hA := h.below hbA
 have hKz := Blk.new w 3 #[.int .i64 z]
 have HB := Lib.hid (Fr.of_below (DFoot g m es) hbA)
 obtain ⟨wA, hwA⟩ : ∃ wA, wA = w.alloc (.cells #[.int .i64 z] 3) := ⟨_, rfl⟩
 have hsA : w.heap.size < wA.heap.size := by rw [hwA]; simp
 rw [← hwA] at hA hKz HB
 have HWA := Lib.hid hwA
 by_cases ho : p.off = true
 ·have e : (dkOf p room es).cutF s.data.toList z = (50, dkOf p room es) := by unfold DkD.cutF; rw [if_pos ho]
  rw [e]
  have hfind := Lib.hid (find_down hA s hs ho)
  have HT := Lib.hid (DiskTo.mk' (hA.below ((Below.refl wA.heap.size wA).alloc (Nat.le_refl _) (.cells #[.pointer none] 81))) (HB.out.trans (Fr.of_below (DFoot g m es) ((Below.refl wA.heap.size wA).alloc (Nat.le_refl _) (.cells #[.pointer none] 81))) (fun j hj => .inl hj)))
  clear h e hA hbA hKz hwA
  go_enter Tryz.func55, Tryz.ntmps55
  go_wp2_with fail
  rw [← HWA.out]
  refine hfind.out.mono ?_
  rintro e w' ⟨rfl, rfl⟩
  go_wp2_with fail
  go_ret
  exact ⟨rfl, HT.out⟩
 ·have ho' : p.off = false := by simpa using ho
  cases hg : asGet s.data.toList es with
  | none =>
   have e : (dkOf p room es).cutF s.data.toList z = (51, dkOf p room es) := by unfold DkD.cutF; rw [if_neg ho]; simp only [asGet_f hg]
   rw [e]
   have hfind := Lib.hid (find_none hA s hs hg ho')
   have HT := Lib.hid (DiskTo.mk' (hA.below ((Below.refl wA.heap.size wA).alloc (Nat.le_refl _) (.cells #[.pointer none] 81))) (HB.out.trans (Fr.of_below (DFoot g m es) ((Below.refl wA.heap.size wA).alloc (Nat.le_refl _) (.cells #[.pointer none] 81))) (fun j hj => .inl hj)))
   clear h e hA hbA hKz hwA
   go_enter Tryz.func55, Tryz.ntmps55
   go_wp2_with fail
   rw [← HWA.out]
   refine hfind.out.mono ?_
   rintro e w' ⟨rfl, rfl⟩
   go_wp2_with fail
   go_ret
   exact ⟨rfl, HT.out⟩
  | some fe =>
   have hfind := Lib.hid (find_found hA s hs hg ho')
   have hmem := asGet_some hg
   have hbB := (Below.refl wA.heap.size wA).alloc (Nat.le_refl _) (.cells #[.pointer (some ⟨fe.blk, 0, none⟩)] 81)
   obtain ⟨wB, hwB⟩ : ∃ wB, wB = wA.alloc (.cells #[.pointer (some ⟨fe.blk, 0, none⟩)] 81) := ⟨_, rfl⟩
   have hKf : Blk wB wA.heap.size 81 #[.pointer (some ⟨fe.blk, 0, none⟩)] := by rw [hwB]; exact Blk.new wA 81 _
   rw [← hwB] at hbB
   have hD := hA.below hbB
   have hFB := HB.out.trans (Fr.of_below (DFoot g m es) hbB) (fun j hj => .inl hj)
   have hKz2 : Blk wB w.heap.size 3 #[.int .i64 z] := hKz.below hbB (by omega)
   have hK := hD.file _ hmem
   obtain ⟨A, c, hv, hl, hc, hr⟩ := (hD.got _ hmem).shape
   simp only at hK hv hl
   have z0 : wB.cell? ⟨w.heap.size, 0, none⟩ = some (.int .i64 z) := hKz2.cell 0
   have z1 : wB.cell? ⟨wA.heap.size, 0, none⟩ = some (.pointer (some ⟨fe.blk, 0, none⟩)) := hKf.cell 0
   have z2 : wB.cell? ⟨fe.blk, 0, none⟩ = some (.slice A fe.f.b.length c) := by rw [← hv]; exact hK.cell 0
   have HWB := Lib.hid hwB
   have hflb : fe.f.b.length ≤ 9223372036854775807 := by omega
   by_cases hbad : z < 0 ∨ (fe.f.b.length : Int) < z
   ·have e : (dkOf p room es).cutF s.data.toList z = (1, dkOf p room es) := by unfold DkD.cutF; rw [if_neg ho]; simp only [asGet_fs hg]; rw [if_pos hbad]
    rw [e]
    have HT := Lib.hid (fun nq => (show DiskTo w base g m es (dkOf p room es) (wB.drewN nq) from DiskTo.mk' (hD.drewN_ nq) (hFB.drewN_ nq)))
    clear h e hA hbA hKz hwA hbB hKf hD hFB hKz2 hK hv hr hwB hg hmem
    by_cases h1 : z < 0
    ·have hd : decide (z < 0) = true := decide_eq_true h1
     clear hbad
     go_enter Tryz.func55, Tryz.ntmps55
     go_wp2_with fail
     rw [← HWA.out]
     refine hfind.out.mono ?_
     rintro e w' ⟨rfl, rfl⟩
     go_wp2_with fail
     rw [← HWB.out]
     go_quiet (fail)
     go_wp2_with fail
     go_ret
     exact ⟨rfl, HT.out _⟩
    ·have h2 : (fe.f.b.length : Int) < z := by omega
     have hd : decide (z < 0) = false := decide_eq_false h1
     clear hbad
     go_enter Tryz.func55, Tryz.ntmps55
     go_wp2_with fail
     rw [← HWA.out]
     refine hfind.out.mono ?_
     rintro e w' ⟨rfl, rfl⟩
     go_wp2_with fail
     rw [← HWB.out]
     go_quiet (fail)
     go_wp2_with fail
     go_ret
     exact ⟨rfl, HT.out _⟩
   ·have h1 : ¬ z < 0 := fun h => hbad (.inl h)
    have h2 : ¬ (fe.f.b.length : Int) < z := fun h => hbad (.inr h)
    obtain ⟨k, rfl⟩ : ∃ k : Nat, z = (k : Int) := ⟨z.toNat, by omega⟩
    have e : (dkOf p room es).cutF s.data.toList (k : Int) = (dkOf p room es).whole (asPut s.data.toList ⟨fe.f.b.take k, min fe.f.safe k⟩ (sec FE.f es)) := by unfold DkD.cutF; rw [if_neg ho]; simp only [asGet_fs hg]; rw [if_neg hbad]; rfl
    rw [e]
    have hd : decide ((k : Int) < 0) = false := decide_eq_false h1
    have hwh : ∀ nq, Hid (Calls Tryz.prog 107 #[.pointer (some ⟨g, 0, none⟩), .func (.func 108) #[] #[.pointer (some ⟨wA.heap.size, 0, none⟩), .pointer (some ⟨w.heap.size, 0, none⟩)]] (wB.drewN nq) fun e w' => e = .returned (.int .i64 ((dkOf p room es).whole (asPut s.data.toList ⟨fe.f.b.take k, min fe.f.safe k⟩ (sec FE.f es))).1) ∧ DiskTo w base g m es ((dkOf p room es).whole (asPut s.data.toList ⟨fe.f.b.take k, min fe.f.safe k⟩ (sec FE.f es))).2 w') := fun nq => Lib.hid ((whole_cut (hD.drewN_ nq) hg k (by omega) wA.heap.size w.heap.size (hKf.drewN nq) (hKz2.drewN nq) _ rfl).mono (fun e w' ⟨h3, h4⟩ => ⟨h3, DiskTo.step (hFB.drewN_ nq) (fun k hk => .inl hk) h4⟩))
    obtain ⟨R, hR⟩ : ∃ R, R = (dkOf p room es).whole (asPut s.data.toList ⟨fe.f.b.take k, min fe.f.safe k⟩ (sec FE.f es)) := ⟨_, rfl⟩
    rw [← hR] at hwh ⊢
    clear h e hA hbA hKz hwA hbB hKf hD hFB hKz2 hK hv hr hwB hg hmem hR hbad
    go_enter Tryz.func55, Tryz.ntmps55
    go_wp2_with fail
    rw [← HWA.out]
    refine hfind.out.mono ?_
    rintro e w' ⟨rfl, rfl⟩
    go_wp2_with fail
    rw [← HWB.out]
    go_quiet (fail)
    go_wp2_with fail
    refine (hwh _).out.mono ?_
    rintro e w1 ⟨rfl, hT⟩
    have HT := Lib.hid hT
    clear hT hwh hfind
    go_wp2_with fail
    go_ret
    exact ⟨rfl, HT.out⟩
end
end Go.Proofs.YtgeofijddhflaaaGreatDoor
