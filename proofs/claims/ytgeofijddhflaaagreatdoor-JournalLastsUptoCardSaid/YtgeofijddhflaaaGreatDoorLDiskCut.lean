/- The program's disk: Arm, Cut. Condition: the disk is a call's own. -/
import Derived.Test.YtgeofijddhflaaaGreatDoorLDiskApp
import Derived.Test.YtgeofijddhflaaaGreatDoorLKeepRPieces
set_option linter.unusedVariables false
set_option linter.unusedSimpArgs false
set_option maxHeartbeats 8000000
set_option maxRecDepth 100000
namespace Go.Proofs.YtgeofijddhflaaaGreatDoor
open Go.RowKit Go.Maps Go.Sort Oct
theorem Got.cutCap {w : World} {base : Nat} {A : Option Addr} {n c m : Nat} {l : List UInt8} (h : Got w base (.slice A n c) l) (hm : m <= l.length) : Got w base (.slice A m m) (l.take m) := by
 obtain ⟨A', c', hv, h1, h2, h3⟩ := h.shape;injection hv with e1 e2 e3
 subst e1 e3;have hl : (l.take m).length = m := by rw [lV]; omega
 refine ⟨⟨A, m, by rw [hl], by omega, by omega, by unfold cells; rw [List.map_take]; exact Rd.take h3 m⟩, ?_⟩;rcases h.row with hr | ⟨g', n', cap, a7, a8, hb, hk, h4, h5, h6⟩
 ·injection hr with r1 r2 r3
  subst r1 r3;have : m = 0 := by omega
  subst this;exact .inl rfl
 injection a8 with r1 r2 r3
 subst r1 r3;exact .inr ⟨g', m, m, a7, rfl, hb, hk, by omega, lR _, by omega⟩
def PWD.arm2 (p : PWD) (a b : Int) : PWD := ⟨p.off, decide (0 <= a), a, b⟩
section
variable {w w1 w2 w' : World} {base g m : Nat} {p p' : PWD} {room : Int} {es : List (Nm × FE)}
theorem dA7 (h : aB0 w base g m p room es) (a b : Int) (ha : -9223372036854775808 <= a ∧ a <= 9223372036854775807) (a8 : -9223372036854775808 <= b ∧ b <= 9223372036854775807) :
  Calls Tryz.prog 21 #[.pointer (some ⟨g, 0, none⟩), .int .i64 a, .int .i64 b] w fun e w' => (∃ v, e = .returned v) ∧ aB0 w' base g m (p.arm2 a b) room es ∧ Fr (aA8 g m es) w w' := by
 have hb := h.blk;obtain ⟨⟨c0, c1, c2, c3, c4, c5⟩, f0, f1, f2, f3⟩ := aL8 hb;obtain ⟨w3, a7⟩ : ∃ w3, w3 = (((w.setCell ⟨g, 1, none⟩ (.bool (decide (0 <= a)))).setCell ⟨g, 2, none⟩ (.int .i64 a)).setCell ⟨g, 3, none⟩ (.int .i64 b)) := ⟨_, rfl⟩
 have a9 : w.grownBy w3 (some g) := by rw [a7]; exact aB8 (aB8 (aA0 w g 1 _) (aA0 _ g 2 _) (.inl rfl)) (aA0 _ g 3 _) (.inl rfl)
 have HD : Hid (aB0 w3 base g m (p.arm2 a b) room es) := qZ (h.power a9 (by rw [a7]; exact Blk.set_ (Blk.set_ (Blk.set_ hb 1 _) 2 _) 3 _) ⟨ha, a8, h.num.2.2⟩);have HF : Hid (Fr (aA8 g m es) w w3) := qZ (Fr.of_grown a9 (fun k e => by injection e with e; exact .inl e.symm));have HA := qZ ha;have HB := qZ a8;have HW := qZ a7;clear h hb a9 ha a8 a7;go_enter Tryz.func21, Tryz.ntmps21
 go_wp2_with fail
 rw [<- HW.out];go_end0
 exact ⟨⟨_, rfl⟩, HD.out, HF.out⟩
theorem cR9 (h : aB0 w base g m p room es) {n : Nm} {fe : FE} (e9 : aA9 n es = some fe) (k : Nat) (hk : k <= fe.f.b.length) (b1 b2 : Nat) (h1 : Blk w b1 81 #[.pointer (some ⟨fe.blk, 0, none⟩)]) (h2 : Blk w b2 3 #[.int .i64 k]) :
  Calls Tryz.prog 108 #[.pointer (some ⟨b1, 0, none⟩), .pointer (some ⟨b2, 0, none⟩)] w fun e w' => e = .returned (.tuple #[]) ∧ aB4 w base g m es ⟨p, room, aB3 n ⟨fe.f.b.take k, min fe.f.safe k⟩ (sec FE.f es)⟩ w' := by
 have a7 := aC7 e9;have hK := h.file _ a7;obtain ⟨A, c, hv, hl, hc, hr⟩ := (h.got _ a7).shape;have f7 := h.safe _ a7;simp only at hK hv hl hr f7;have e1 : w.cell? ⟨b1, 0, none⟩ = some (.pointer (some ⟨fe.blk, 0, none⟩)) := h1.cell 0;have e2 : w.cell? ⟨b2, 0, none⟩ = some (.int .i64 k) := h2.cell 0;have e3 : w.cell? ⟨fe.blk, 0, none⟩ = some (.slice A fe.f.b.length c) := by rw [<- hv]; exact hK.cell 0
 have e4 : w.cell? ⟨fe.blk, 1, none⟩ = some (.int .i64 fe.f.safe) := hK.cell 1;have f3 : w.frozen? ⟨fe.blk, 0, none⟩ = false := hK.frozen 0;have f4 : w.frozen? ⟨fe.blk, 1, none⟩ = false := hK.frozen 1;have a8 : Got w base (.slice A k k) (fe.f.b.take k) := Got.cutCap (by rw [<- hv]; exact h.got _ a7) hk;have b8 : ∀ n1, aB4 w base g m es ⟨p, room, aB3 n ⟨fe.f.b.take k, min fe.f.safe k⟩ (sec FE.f es)⟩ (((w.drewN n1).setCell ⟨fe.blk, 0, none⟩ (.slice A k k)).setCell ⟨fe.blk, 1, none⟩ (.int .i64 (min fe.f.safe k : Nat))) := fun n1 => by
  have d8 := aB8 (aA0 (w.drewN n1) fe.blk 0 (.slice A k k)) (aA0 ((w.drewN n1).setCell ⟨fe.blk, 0, none⟩ (.slice A k k)) fe.blk 1 (.int .i64 (min fe.f.safe k : Nat))) (.inl rfl);refine aB4.file_set h (Fr.refl _ _) e9 (.slice A k k) ⟨fe.f.b.take k, min fe.f.safe k⟩ (by simp) (Blk.set_ (Blk.set_ (hK.drewN n1) 0 _) 1 _) (a8.kept (fun i hi => ?_) (by simp)) (by simp only [lV]; omega) (fun i hi => .inl (by rw [hv]; cases A <;> exact hi)) (fun i hi hne _ => ?_) ⟨d8.os, d8.tape, d8.output⟩
  ·refine d8.block i (a8.row.lt i hi) (fun e => ?_)
   injection e with e
   exact aF0 a8 hK (by decide) (by rw [hi, e])
  exact d8.block i hi (fun e => hne (by injection e))
 have a9 := qZ b8;have g9 : k <= c := by omega
 have hcut := fun W : World => cF9 (P := Tryz.prog) Tryz.underlying34 aG0 A fe.f.b.length c 0 k (by omega) (by omega) 0 (k : Int) rfl rfl W
 have g8 := qZ f7;have f8 := qZ (And.intro (blk_ne hK h1 (by decide)) (blk_ne hK h2 (by decide)));clear h h1 h2 e9 a7 hK hv hr a8 b8 f7;go_enter Tryz.func108, Tryz.ntmps108
 go_wp2_with fail
 have hd : aB4 w base g m es ⟨p, room, aB3 n ⟨fe.f.b.take k, min fe.f.safe k⟩ (sec FE.f es)⟩ ((w.drew.setCell ⟨fe.blk, 0, none⟩ (.slice A k k)).setCell ⟨fe.blk, 1, none⟩ (.int .i64 (min fe.f.safe k : Nat))) := a9.out 1;have HD := qZ hd;have f9 : (⟨fe.blk, 0, none⟩ : Addr) ≠ ⟨fe.blk, 1, none⟩ := by intro e; injection e with _ e; omega
 have g6 : (⟨fe.blk, 0, none⟩ : Addr) ≠ ⟨b1, 0, none⟩ := by intro e; injection e with e; exact f8.out.1 e
 have g7 : (⟨fe.blk, 0, none⟩ : Addr) ≠ ⟨b2, 0, none⟩ := by intro e; injection e with e; exact f8.out.2 e
 have g1 : (w.drew.setCell ⟨fe.blk, 0, none⟩ (.slice A k k)).cell? ⟨b1, 0, none⟩ = some (.pointer (some ⟨fe.blk, 0, none⟩)) := by rw [World.cell?_setCell_other (h := g6)]; exact e1
 have g2 : (w.drew.setCell ⟨fe.blk, 0, none⟩ (.slice A k k)).cell? ⟨b2, 0, none⟩ = some (.int .i64 k) := by rw [World.cell?_setCell_other (h := g7)]; exact e2
 have g4 : (w.drew.setCell ⟨fe.blk, 0, none⟩ (.slice A k k)).cell? ⟨fe.blk, 1, none⟩ = some (.int .i64 fe.f.safe) := by rw [World.cell?_setCell_other (h := f9)]; exact e4
 have gf : (w.drew.setCell ⟨fe.blk, 0, none⟩ (.slice A k k)).frozen? ⟨fe.blk, 1, none⟩ = false := by rw [World.frozen?_setCell]; exact f4
 clear hd f9 g6 g7 a9;by_cases hms : (fe.f.safe : Int) <= (k : Int)
 ·refine aD4 20 (by kernel_rfl) (S := fun W => W.cell? ⟨b1, 0, none⟩ = some (.pointer (some ⟨fe.blk, 0, none⟩)) ∧ W.cell? ⟨b2, 0, none⟩ = some (.int .i64 k) ∧ W.cell? ⟨fe.blk, 1, none⟩ = some (.int .i64 fe.f.safe) ∧ True) ⟨e1, e2, e4, trivial⟩ (fun hHeld => ?_)
  refine zU 0 (k := ?_);refine zU 1 (k := ?_);refine zU 2 (k := ?_);refine zU 3 (k := ?_);refine zU 4 (k := ?_);refine zU 6 (k := ?_);refine zU 7 (k := ?_);refine zU 9 (k := ?_);refine zU 10 (k := ?_);refine zU 11 (k := ?_);refine zU 12 (k := ?_);refine zU 13 (k := ?_);refine zU 14 (k := ?_);simp only [zA, zB, zF, zG, zC, zD, zE];refine zW 5 (k := fun K hK => ?_);simp only [zA, zB];go_simp;refine hK.out _ _ ⟨e1, e2, e4, trivial⟩ (fun hHeld => ?_);clear hK K;try simp only [zF, zG, zC, zD, zE]
  refine zW 8 (k := fun K hK => ?_);simp only [zA, zB];go_simp;refine hK.out _ _ ⟨e1, e2, e4, trivial⟩ (fun hHeld => ?_);clear hK K;try simp only [zF, zG, zC, zD, zE]
  refine zW 15 (k := fun K hK => ?_);simp only [zA, zB];go_simp;refine hK.out _ _ ⟨e1, e2, e4, trivial⟩ (fun hHeld => ?_);clear hK K;try simp only [zF, zG, zC, zD, zE]
  refine zW 16 (k := fun K hK => ?_);simp only [zA, zB];go_simp;refine hK.out _ _ ⟨e1, e2, e4, trivial⟩ (fun hHeld => ?_);clear hK K;try simp only [zF, zG, zC, zD, zE]
  refine zW 17 (k := fun K hK => ?_);simp only [zA, zB];go_simp;refine hK.out _ _ ⟨g1, g2, g4, trivial⟩ (fun hHeld => ?_);clear hK K;try simp only [zF, zG, zC, zD, zE]
  refine zW 18 (k := fun K hK => ?_);simp only [zA, zB];go_simp;refine hK.out _ _ ⟨g1, g2, g4, trivial⟩ (fun hHeld => ?_);clear hK K;try simp only [zF, zG, zC, zD, zE]
  refine zW 19 (k := fun K hK => ?_);simp only [zA, zB];go_simp;refine hK.out _ _ ⟨g1, g2, g4, trivial⟩ (fun hHeld => ?_);clear hK K;try simp only [zF, zG, zC, zD, zE]
  refine aH0 (t := 20) (by simp) (by kernel_rfl) (by kernel_rfl) (fun K hK => ?_);simp only [zA, zB];go_simp;refine hK.out _ _ ?_;clear hK K hHeld;rw [show min fe.f.safe k = fe.f.safe by omega] at HD;go_wp2_with fail
  go_end0
  refine ⟨rfl, ?_⟩;rw [show min fe.f.safe k = fe.f.safe by omega];exact HD.out
 refine aD4 20 (by kernel_rfl) (S := fun W => W.cell? ⟨b1, 0, none⟩ = some (.pointer (some ⟨fe.blk, 0, none⟩)) ∧ W.cell? ⟨b2, 0, none⟩ = some (.int .i64 k) ∧ W.cell? ⟨fe.blk, 1, none⟩ = some (.int .i64 fe.f.safe) ∧ True) ⟨e1, e2, e4, trivial⟩ (fun hHeld => ?_);refine zU 0 (k := ?_);refine zU 1 (k := ?_);refine zU 2 (k := ?_);refine zU 3 (k := ?_);refine zU 4 (k := ?_);refine zU 6 (k := ?_);refine zU 7 (k := ?_);refine zU 9 (k := ?_);refine zU 10 (k := ?_);refine zU 11 (k := ?_);refine zU 12 (k := ?_);refine zU 13 (k := ?_);refine zU 14 (k := ?_);simp only [zA, zB, zF, zG, zC, zD, zE];refine zW 5 (k := fun K hK => ?_);simp only [zA, zB];go_simp;refine hK.out _ _ ⟨e1, e2, e4, trivial⟩ (fun hHeld => ?_);clear hK K;try simp only [zF, zG, zC, zD, zE]
 refine zW 8 (k := fun K hK => ?_);simp only [zA, zB];go_simp;refine hK.out _ _ ⟨e1, e2, e4, trivial⟩ (fun hHeld => ?_);clear hK K;try simp only [zF, zG, zC, zD, zE]
 refine zW 15 (k := fun K hK => ?_);simp only [zA, zB];go_simp;refine hK.out _ _ ⟨e1, e2, e4, trivial⟩ (fun hHeld => ?_);clear hK K;try simp only [zF, zG, zC, zD, zE]
 refine zW 16 (k := fun K hK => ?_);simp only [zA, zB];go_simp;refine hK.out _ _ ⟨e1, e2, e4, trivial⟩ (fun hHeld => ?_);clear hK K;try simp only [zF, zG, zC, zD, zE]
 refine zW 17 (k := fun K hK => ?_);simp only [zA, zB];go_simp;refine hK.out _ _ ⟨g1, g2, g4, trivial⟩ (fun hHeld => ?_);clear hK K;try simp only [zF, zG, zC, zD, zE]
 refine zW 18 (k := fun K hK => ?_);simp only [zA, zB];go_simp;refine hK.out _ _ ⟨g1, g2, g4, trivial⟩ (fun hHeld => ?_);clear hK K;try simp only [zF, zG, zC, zD, zE]
 refine zW 19 (k := fun K hK => ?_);simp only [zA, zB];go_simp;refine hK.out _ _ ⟨g1, g2, g4, trivial⟩ (fun hHeld => ?_);clear hK K;try simp only [zF, zG, zC, zD, zE]
 refine aH0 (t := 20) (by simp) (by kernel_rfl) (by kernel_rfl) (fun K hK => ?_);simp only [zA, zB];go_simp;refine hK.out _ _ ?_;clear hK K hHeld;rw [show min fe.f.safe k = k by omega] at HD;go_wp2_with fail
 go_end0
 refine ⟨rfl, ?_⟩;rw [show min fe.f.safe k = k by omega];exact HD.out
theorem cZ6 (h : aB0 w base g m p room es) {n : Nm} {fe : FE} (f7 : aA9 n es = some fe) (k : Nat) (hk : k <= fe.f.b.length) (b1 b2 : Nat) (h1 : Blk w b1 81 #[.pointer (some ⟨fe.blk, 0, none⟩)]) (h2 : Blk w b2 3 #[.int .i64 k]) (fs : List (Nm × FD)) (d8 : fs = aB3 n ⟨fe.f.b.take k, min fe.f.safe k⟩ (sec FE.f es)) :
  Calls Tryz.prog 107 #[.pointer (some ⟨g, 0, none⟩), .func (.func 108) #[] #[.pointer (some ⟨b1, 0, none⟩), .pointer (some ⟨b2, 0, none⟩)]] w fun e w' => e = .returned (.int .i64 ((aD2 p room es).whole fs).1) ∧ aB4 w base g m es ((aD2 p room es).whole fs).2 w' := by
 have hcut := qZ (bA0 h);have HB := qZ (And.intro h (And.intro h1 h2));obtain ⟨c, hc⟩ : ∃ c, c = p.cut := ⟨_, rfl⟩
 obtain ⟨e9, part, p'⟩ := c;rw [<- hc] at hcut;have a8 : ∀ w1, aB0 w1 base g m p' room es -> Fr (aA8 g m es) w w1 -> Hid (Calls Tryz.prog 108 #[.pointer (some ⟨b1, 0, none⟩), .pointer (some ⟨b2, 0, none⟩)] w1 fun e w' => e = .returned (.tuple #[]) ∧ aB4 w base g m es ⟨p', room, fs⟩ w') := fun w1 hD hF => qZ (by
  obtain ⟨h, k0, k1⟩ := HB.out;refine (cR9 hD f7 k hk b1 b2 (hF.blk_ k0 (h.not_foot k0 (by decide) (by decide) (by decide))) (hF.blk_ k1 (h.not_foot k1 (by decide) (by decide) (by decide)))).mono ?_;rintro e w' ⟨rfl, h4⟩;refine ⟨rfl, ?_⟩;rw [d8];exact aB4.step hF (fun k hk => .inl hk) h4)
 cases e9 with
 | false =>
  have e : (aD2 p room es).whole fs = (0, ⟨p', room, fs⟩) := by unfold DkD.whole; rw [<- hc]; simp
  rw [e];clear h e hc HB d8;go_enter Tryz.func107, Tryz.ntmps107
  go_wp2_with fail
  refine hcut.out.mono ?_;rintro e w1 ⟨rfl, hD, hF, b8⟩;have a9 := a8 w1 hD hF;clear hD hF b8 hcut a8;go_wp2_with fail
  refine a9.out.mono ?_;rintro e w2 ⟨rfl, hT⟩;have HT := qZ hT;clear hT a9;go_wp2_with fail
  go_ret
  exact ⟨rfl, HT.out⟩
 | true =>
  by_cases hp : part % 2 = 0
  ·have e : (aD2 p room es).whole fs = (50, aD2 p' room es) := by unfold DkD.whole; rw [<- hc]; simp [hp]
   rw [e];have a7 : part.tmod 2 = 0 := (cQ3 part).2 hp;have f8 : (part.tmod 2 != 0) = false := by simp [a7]
   clear h e hc HB a8 hp d8;go_enter Tryz.func107, Tryz.ntmps107
   go_wp2_with fail
   refine hcut.out.mono ?_;rintro e w1 ⟨rfl, hD, hF, b8⟩;have HT := qZ (aB4.mk' hD hF);clear hD hF b8 hcut;go_wp2_with fail
   go_ret
   exact ⟨rfl, HT.out⟩
  have e : (aD2 p room es).whole fs = (50, ⟨p', room, fs⟩) := by unfold DkD.whole; rw [<- hc]; simp [hp]
  rw [e];have a7 : ¬ part.tmod 2 = 0 := fun e => hp ((cQ3 part).1 e)
  have f8 : (part.tmod 2 != 0) = true := by simpa using a7
  clear h e hc HB hp d8;go_enter Tryz.func107, Tryz.ntmps107
  go_wp2_with fail
  refine hcut.out.mono ?_;rintro e w1 ⟨rfl, hD, hF, b8⟩;have a9 := a8 w1 hD hF;clear hD hF b8 hcut a8;go_wp2_with fail
  refine a9.out.mono ?_;rintro e w2 ⟨rfl, hT⟩;have HT := qZ hT;clear hT a9;go_wp2_with fail
  go_ret
  exact ⟨rfl, HT.out⟩
theorem bX0 (h : aB0 w base g m p room es) (s : ByteArray) (hs : s.size <= 140737488351232) (z : Int) (hz : -9223372036854775808 <= z ∧ z <= 9223372036854775807) :
  Calls Tryz.prog 55 #[.pointer (some ⟨g, 0, none⟩), .string s, .int .i64 z] w fun e w' => e = .returned (.int .i64 ((aD2 p room es).cutF s.data.toList z).1) ∧ aB4 w base g m es ((aD2 p room es).cutF s.data.toList z).2 w' := by
 have e9 := (lS w.heap.size w).alloc (lR _) (.cells #[.int .i64 z] 3);have hA := h.below e9;have d8 := Blk.new w 3 #[.int .i64 z];have HB := qZ (Fr.of_below (aA8 g m es) e9);obtain ⟨wA, b8⟩ : ∃ wA, wA = w.alloc (.cells #[.int .i64 z] 3) := ⟨_, rfl⟩
 have i3 : w.heap.size < wA.heap.size := by rw [b8]; simp
 rw [<- b8] at hA d8 HB;have f8 := qZ b8;by_cases ho : p.off = true
 ·have e : (aD2 p room es).cutF s.data.toList z = (50, aD2 p room es) := by unfold DkD.cutF; rw [if_pos ho]
  rw [e];have a7 := qZ (aV3 hA s hs ho);have HT := qZ (aB4.mk' (hA.below ((lS wA.heap.size wA).alloc (lR _) (.cells #[.pointer none] 81))) (HB.out.trans (Fr.of_below (aA8 g m es) ((lS wA.heap.size wA).alloc (lR _) (.cells #[.pointer none] 81))) (fun j hj => .inl hj)));clear h e hA e9 d8 b8;go_enter Tryz.func55, Tryz.ntmps55
  go_wp2_with fail
  rw [<- f8.out];refine a7.out.mono ?_;rintro e w' ⟨rfl, rfl⟩;go_wp2_with fail
  go_ret
  exact ⟨rfl, HT.out⟩
 have i1 : p.off = false := by simpa using ho
 cases hg : aA9 s.data.toList es with
 | none =>
  have e : (aD2 p room es).cutF s.data.toList z = (51, aD2 p room es) := by unfold DkD.cutF; rw [if_neg ho]; simp only [aY6 hg]
  rw [e];have a7 := qZ (aV4 hA s hs hg i1);have HT := qZ (aB4.mk' (hA.below ((lS wA.heap.size wA).alloc (lR _) (.cells #[.pointer none] 81))) (HB.out.trans (Fr.of_below (aA8 g m es) ((lS wA.heap.size wA).alloc (lR _) (.cells #[.pointer none] 81))) (fun j hj => .inl hj)));clear h e hA e9 d8 b8;go_enter Tryz.func55, Tryz.ntmps55
  go_wp2_with fail
  rw [<- f8.out];refine a7.out.mono ?_;rintro e w' ⟨rfl, rfl⟩;go_wp2_with fail
  go_ret
  exact ⟨rfl, HT.out⟩
 | some fe =>
  have a7 := qZ (aR4 hA s hs hg i1);have a9 := aC7 hg;have f7 := (lS wA.heap.size wA).alloc (lR _) (.cells #[.pointer (some ⟨fe.blk, 0, none⟩)] 81);obtain ⟨wB, f9⟩ : ∃ wB, wB = wA.alloc (.cells #[.pointer (some ⟨fe.blk, 0, none⟩)] 81) := ⟨_, rfl⟩
  have g7 : Blk wB wA.heap.size 81 #[.pointer (some ⟨fe.blk, 0, none⟩)] := by rw [f9]; exact Blk.new wA 81 _
  rw [<- f9] at f7;have hD := hA.below f7;have g6 := HB.out.trans (Fr.of_below (aA8 g m es) f7) (fun j hj => .inl hj);have a8 : Blk wB w.heap.size 3 #[.int .i64 z] := d8.below f7 (by omega);have hK := hD.file _ a9;obtain ⟨A, c, hv, hl, hc, hr⟩ := (hD.got _ a9).shape;simp only at hK hv hl;have z0 : wB.cell? ⟨w.heap.size, 0, none⟩ = some (.int .i64 z) := a8.cell 0;have z1 : wB.cell? ⟨wA.heap.size, 0, none⟩ = some (.pointer (some ⟨fe.blk, 0, none⟩)) := g7.cell 0;have z2 : wB.cell? ⟨fe.blk, 0, none⟩ = some (.slice A fe.f.b.length c) := by rw [<- hv]; exact hK.cell 0
  have g8 := qZ f9;have i2 : fe.f.b.length <= 9223372036854775807 := by omega
  by_cases hbad : z < 0 ∨ (fe.f.b.length : Int) < z
  ·have e : (aD2 p room es).cutF s.data.toList z = (1, aD2 p room es) := by unfold DkD.cutF; rw [if_neg ho]; simp only [aL6 hg]; rw [if_pos hbad]
   rw [e];have HT := qZ (fun nq => (show aB4 w base g m es (aD2 p room es) (wB.drewN nq) from aB4.mk' (hD.drewN_ nq) (g6.drewN_ nq)));clear h e hA e9 d8 b8 f7 g7 hD g6 a8 hK hv hr f9 hg a9;by_cases h1 : z < 0
   ·have hd : decide (z < 0) = true := decide_eq_true h1
    clear hbad;go_enter Tryz.func55, Tryz.ntmps55
    go_wp2_with fail
    rw [<- f8.out];refine a7.out.mono ?_;rintro e w' ⟨rfl, rfl⟩;go_wp2_with fail
    rw [<- g8.out];go_quiet (fail);go_wp2_with fail
    go_ret
    exact ⟨rfl, HT.out _⟩
   have h2 : (fe.f.b.length : Int) < z := by omega
   have hd : decide (z < 0) = false := decide_eq_false h1;clear hbad;go_enter Tryz.func55, Tryz.ntmps55
   go_wp2_with fail
   rw [<- f8.out];refine a7.out.mono ?_;rintro e w' ⟨rfl, rfl⟩;go_wp2_with fail
   rw [<- g8.out];go_quiet (fail);go_wp2_with fail
   go_ret
   exact ⟨rfl, HT.out _⟩
  have h1 : ¬ z < 0 := fun h => hbad (.inl h)
  have h2 : ¬ (fe.f.b.length : Int) < z := fun h => hbad (.inr h)
  obtain ⟨k, rfl⟩ : ∃ k : Nat, z = (k : Int) := ⟨z.toNat, by omega⟩
  have e : (aD2 p room es).cutF s.data.toList (k : Int) = (aD2 p room es).whole (aB3 s.data.toList ⟨fe.f.b.take k, min fe.f.safe k⟩ (sec FE.f es)) := by unfold DkD.cutF; rw [if_neg ho]; simp only [aL6 hg]; rw [if_neg hbad]; rfl
  rw [e];have hd : decide ((k : Int) < 0) = false := decide_eq_false h1;have g9 : ∀ nq, Hid (Calls Tryz.prog 107 #[.pointer (some ⟨g, 0, none⟩), .func (.func 108) #[] #[.pointer (some ⟨wA.heap.size, 0, none⟩), .pointer (some ⟨w.heap.size, 0, none⟩)]] (wB.drewN nq) fun e w' => e = .returned (.int .i64 ((aD2 p room es).whole (aB3 s.data.toList ⟨fe.f.b.take k, min fe.f.safe k⟩ (sec FE.f es))).1) ∧ aB4 w base g m es ((aD2 p room es).whole (aB3 s.data.toList ⟨fe.f.b.take k, min fe.f.safe k⟩ (sec FE.f es))).2 w') := fun nq => qZ ((cZ6 (hD.drewN_ nq) hg k (by omega) wA.heap.size w.heap.size (g7.drewN nq) (a8.drewN nq) _ rfl).mono (fun e w' ⟨h3, h4⟩ => ⟨h3, aB4.step (g6.drewN_ nq) (fun k hk => .inl hk) h4⟩))
  obtain ⟨R, hR⟩ : ∃ R, R = (aD2 p room es).whole (aB3 s.data.toList ⟨fe.f.b.take k, min fe.f.safe k⟩ (sec FE.f es)) := ⟨_, rfl⟩
  rw [<- hR] at g9 ⊢;clear h e hA e9 d8 b8 f7 g7 hD g6 a8 hK hv hr f9 hg a9 hR hbad;go_enter Tryz.func55, Tryz.ntmps55
  go_wp2_with fail
  rw [<- f8.out];refine a7.out.mono ?_;rintro e w' ⟨rfl, rfl⟩;go_wp2_with fail
  rw [<- g8.out];go_quiet (fail);go_wp2_with fail
  refine (g9 _).out.mono ?_;rintro e w1 ⟨rfl, hT⟩;have HT := qZ hT;clear hT g9 a7;go_wp2_with fail
  go_ret
  exact ⟨rfl, HT.out⟩
end
end Go.Proofs.YtgeofijddhflaaaGreatDoor
