/- journal.Save. Condition: the journal is on a disk of a call's own, within bounds; the entries' memory is known; the library's variables stand as laid. -/
import Derived.Test.YtgeofijddhflaaaGreatDoorLJnComp
set_option linter.unusedVariables false
set_option linter.unusedSimpArgs false
set_option maxHeartbeats 8000000
set_option maxRecDepth 100000
namespace Go.Proofs.YtgeofijddhflaaaGreatDoor
open Go.RowKit Go.Maps Oct
theorem bY9 {w : World} {base g m gj : Nat} {F E : Nat -> Prop} {d : DkD} {j : JnP} {es : List (Nm × FE)} (h : JnK w base g m gj F d j es) (T8 : base <= w.heap.size) {L : Nat} (oL : JDk L d) (hL : L <= 100000000000) (hE : ∀ w', Below base w w' -> Tab w') (jM : j.segs.length <= 1000000) (oD : ∀ s ∈ j.segs, 1 <= s.k ∧ s.k <= 999999999)
  (M6 : ∀ s ∈ j.segs, s.l.length <= 100000000 ∧ 0 <= s.long ∧ s.long <= 1000000000000)
  (M5 : ∀ s ∈ j.segs, s.ends ≠ [] ∧ ∀ n ∈ s.ends, 0 <= n ∧ n <= 1000000000000) (cJ : (j.segs.map aB1.long).sum <= aB7 d.fs)
  (Ae : Option Addr) (rs : List aD8) (ce : Nat) (jJ : RdF w E Ae (aA7 rs)) (iH : ∀ q ∈ rs, bB7 w E q.v q.e.b) (dH : ∀ k, E k -> k < w.heap.size) (tX : rs.length <= 2000000) (nQ : ((rs.map aD8.e).map aC9).flatten.length <= 1000000000)
  (x4 : ∀ q ∈ rs, (-9223372036854775808 <= q.e.ix ∧ q.e.ix <= 9223372036854775807) ∧ (-9223372036854775808 <= q.e.tm ∧ q.e.tm <= 9223372036854775807) ∧ (-9223372036854775808 <= q.e.kd ∧ q.e.kd <= 9223372036854775807)) :
  Calls Tryz.prog 15 #[.pointer (some ⟨gj, 0, none⟩), .slice Ae rs.length ce] w fun e w' => cC5 w base g m gj es F (aI9 j d (rs.map aD8.e)) e w' := by
 have nU := h.jn.lt;have dJ : ∀ k, F k -> k < w.heap.size := fun k hk => (h.apart k hk).2.1
 have J7 := fun w' (hb : Below w.heap.size w w') => dC4 (h.jn.below dJ hb) (fun k hk => by have := dJ k hk; have := hb.size; omega) Ae rs ce (jJ.keep hb.size (fun k hk => hb.block k (dH k hk))) (fun k hk => by have := dH k hk; have := hb.size; omega) (fun q hq => by obtain ⟨Av, cd, hv, _⟩ := iH q hq; exact ⟨Av, cd, hv⟩) (by omega) x4
 obtain ⟨l, hl⟩ : ∃ l, l = rs.map aD8.e := ⟨_, rfl⟩
 rw [<- hl] at J7 nQ ⊢;obtain ⟨mj, jB⟩ : ∃ x, x = bT8 j l := ⟨_, rfl⟩
 rw [<- jB] at J7;obtain ⟨jb, iU⟩ : ∃ x, x = j.bad := ⟨_, rfl⟩
 obtain ⟨⟨A, c, i4, h1, h2, h3, h4, h5⟩, h6, nX⟩ := h.jn;rw [<- iU] at h1;obtain ⟨nl, dZ⟩ : ∃ n, n = j.segs.length := ⟨_, rfl⟩
 rw [<- dZ] at h2 h4 h6 jM;have nC : Blk w gj 53 #[.int .i64 j.term, .int .i64 j.vote, .slice A nl c, .pointer (some ⟨g, 0, none⟩), .int .i64 jb] := by rw [dZ]; exact h1
 obtain ⟨w0, eF⟩ : ∃ W, W = w.alloc (.cells #[.pointer (some ⟨gj, 0, none⟩)] 30) := ⟨_, rfl⟩
 have aQ : Below w.heap.size w w0 := by rw [eF]; exact (lS _ w).alloc (lR _) _
 have dL : Blk w0 w.heap.size 30 #[.pointer (some ⟨gj, 0, none⟩)] := by rw [eF]; exact Blk.new w _ _
 have gX := nC.below aQ nU;have b0 : w0.cell? ⟨w.heap.size, 0, none⟩ = some (.pointer (some ⟨gj, 0, none⟩)) := dL.cell 0;have j4 : w0.cell? ⟨gj, 4, none⟩ = some (.int .i64 jb) := gX.cell 4;have j6 := aQ.size;have D6 := dL.lt;have lQ := qZ h3;have dD := qZ h5;have HH := qZ h;have gI := qZ oL;have HE := qZ hE;have lG := qZ oD;have m3 := qZ M6;have W9 := qZ M5;have gM := qZ cJ;have T0 := qZ iU;have D9 := qZ dZ;have f9 := qZ h4;have Z1 := qZ x4;have cY := qZ nX;have g8 := qZ dJ;have O9 := qZ (J7 w0 aQ);have P0 := qZ jB;have O8 := qZ hl;have lY := qZ jJ;have cX := qZ iH;have kW := qZ dH;have g9 := qZ aQ;have C1 := qZ dL;have B4 := qZ gX;have qG := qZ eF;clear h h1 h3 h4 h5 h6 oL hE oD M6 M5 cJ iU dZ x4 nX dJ J7 jB hl jJ iH dH aQ dL gX eF nC;go_enter Tryz.func15, Tryz.ntmps15
 go_upto_region 1 with fail
 rw [<- qG.out];by_cases hb : jb = 0
 rotate_left
 ·have qW : (jb != 0) = true := bne_iff_ne.2 hb
  have HR := qZ (show aI9 j d l = (jb, j, d) by unfold aI9; rw [if_pos (by rw [<- T0.out]; exact hb), T0.out]);clear hb O9;go_wp2_with fail
  go_ret
  exact HH.out.same g9.out HR.out
 subst hb;go_wp2_with fail
 refine O9.out.mono ?_;rintro e w1 ⟨rfl, dM⟩;have G4 := qZ dM;have N6 := qZ (g9.out.trans (dM.mono j6));have eC := dM.size;clear dM O9 b0 j4;by_cases hm : mj = 0
 rotate_left
 ·have dW : (mj != 0) = true := bne_iff_ne.2 hm
  have HR := qZ (show aI9 j d l = (mj, j, d) by unfold aI9; rw [if_neg (by rw [<- T0.out]; simp), if_pos (by rw [<- P0.out]; exact hm), P0.out]);clear hm;go_wp2_with fail
  go_ret
  exact HH.out.same N6.out HR.out
 subst hm;rcases Nat.eq_zero_or_pos rs.length with hz | hz
 ·have HR := qZ (show aI9 j d l = (0, j, d) by
   have h0 : l = [] := by rw [O8.out, mD hz]; rfl
   have dV := P0.out;unfold aI9;rw [if_neg (by rw [<- T0.out]; simp), if_neg (by rw [<- dV]; simp), h0])
  obtain ⟨rn, oO⟩ : ∃ n, n = rs.length := ⟨_, rfl⟩
  rw [<- oO] at hz ⊢;subst hz;clear oO;go_wp2_with fail
  go_ret
  exact HH.out.same N6.out HR.out
 have uG : ((rs.length : Int) == 0) = false := beq_eq_false_iff_ne.2 (by omega);obtain ⟨eb, eo, qM, _, rM, iM⟩ := lY.out (by rw [aC0]; omega);subst qM;obtain ⟨ix, U2⟩ : ∃ x, x = rs[0].e.ix := ⟨_, rfl⟩
 have bR := (Z1.out rs[0] (lX hz)).1;rw [<- U2] at bR;have bQ : 0 <= ix ∧ ix <= 9223372036854775806 := by
  have h0 : l = rs[0].e :: (rs.drop 1).map aD8.e := by
   rw [O8.out];have e : rs = rs[0] :: rs.drop 1 := List.drop_eq_getElem_cons hz
   conv => lhs; rw [e]
   rfl
  have dV := P0.out.symm;rw [h0] at dV;have h1 := cW7 dV;have h2 := JnP.base_low HH.out.jn;rw [<- U2] at h1;omega
 have mF : Hid (aI9 j d l = bV2 j d l ix) := qZ (by
  have h0 : l = rs[0].e :: (rs.drop 1).map aD8.e := by
   rw [O8.out];have e : rs = rs[0] :: rs.drop 1 := List.drop_eq_getElem_cons hz
   conv => lhs; rw [e]
   rfl
  rw [U2];exact bV1 T0.out.symm P0.out.symm h0)
 have e0 : w1.cell? ⟨eb, eo, none⟩ = some (.int .i64 ix) := (N6.out.cell (p := ⟨eb, eo, none⟩) rM).trans (iM 0 _ (by rw [show (0 : Nat) = 0 * 4 + 0 from rfl, aE6 _ hz (by omega), U2]; rfl));have b1 : w1.cell? ⟨w.heap.size, 0, none⟩ = some (.pointer (some ⟨gj, 0, none⟩)) := (C1.out.below G4.out D6).cell 0;have j2 : w1.cell? ⟨gj, 2, none⟩ = some (.slice A nl c) := (B4.out.below G4.out (by omega)).cell 2;have tJ := qZ iM;have tK := qZ U2;clear iM U2;go_upto_block 0 with fail
 obtain ⟨N, hN⟩ : ∃ N, N = aN9 j.segs ix nl := ⟨_, rfl⟩
 have HN := qZ hN;clear hN;go_cut [7, 8, 9] from 50 to 94 (fun c7 c8 c9 wx => ∃ (dv : Value) (vs : List Value) (G : Nat -> Prop), c7 = .int .i64 N ∧ c8 = .int .i64 (aH8 j N) ∧ c9 = dv ∧ N <= nl ∧ vs.length <= nl ∧ Hid (Below w0.heap.size w0 wx) ∧ Hid (aJ2 wx G w0.heap.size gj g dv vs ((aO5 j N).map fun x => aC3.rm (aA1 x.k))) ∧ Hid (∀ x, G x -> w0.heap.size <= x))
 case first =>
  go_wp2_with fail
  go_loopw [7, 8, 9] (fun i7 i8 i9 wr => ∃ (k : Nat) (dv : Value) (vs : List Value) (G : Nat -> Prop), k <= nl ∧ i7 = .int .i64 k ∧ i8 = .int .i64 (aH8 j k) ∧ i9 = dv ∧ vs.length + k <= nl ∧ Hid (N = aN9 j.segs ix k) ∧ Hid (Below w0.heap.size w0 wr) ∧ Hid (aJ2 wr G w0.heap.size gj g dv vs ((aO5 j k).map fun x => aC3.rm (aA1 x.k))) ∧ Hid (∀ x, G x -> w0.heap.size <= x)) (fun i7 _ _ _ => (intOf i7).toNat)
  case atStart =>
   have nR : aO5 j nl = [] := by unfold aO5; rw [List.drop_eq_nil_of_le (by rw [<- D9.out]; exact lR _)]; rfl
   refine ⟨nl, .slice none 0 0, [], fun _ => False, lR _, rfl, ?_, rfl, by simp, HN, G4, qZ ?_, qZ (fun _ h => h.elim)⟩
   ·unfold aH8; rw [nR]; rfl
   rw [nR]; exact aJ2.nil
  obtain ⟨k, dv, vs, G, hk, rfl, rfl, dR, jT, Z0, HC, HA, G7⟩ := hrel;have iJ := dR.symm;clear dR;subst iJ;clear HN b1 j2 e0 G4;have S2 := HC.out.size;have N5 := qZ (g9.out.trans (HC.out.mono j6));have b2 : wr.cell? ⟨w.heap.size, 0, none⟩ = some (.pointer (some ⟨gj, 0, none⟩)) := (C1.out.below HC.out D6).cell 0;have k2 : wr.cell? ⟨gj, 2, none⟩ = some (.slice A nl c) := (B4.out.below HC.out (by omega)).cell 2;by_cases hk1 : 1 < k
  rotate_left
  ·have aV : N = k := by
    rw [Z0.out];rcases (by omega : k = 0 ∨ k = 1) with h0 | h0
    ·rw [h0]; rfl
    rw [h0]; rfl
   have l8 := qZ aV;have tT : ¬ (1 : Int) < (k : Int) := by omega
   clear Z0 aV hk1;go_wp2_with fail
   go_meet;exact ⟨_, vs, G, by rw [l8.out], by rw [l8.out], rfl, by rw [l8.out]; exact hk, by omega, HC, qZ (by rw [l8.out]; exact HA.out), G7⟩
  obtain ⟨m1, dU⟩ : ∃ m, m = k - 1 := ⟨_, rfl⟩
  have D1 : m1 < j.segs.length := by rw [<- D9.out]; omega
  have D0 : m1 < i4.length := by rw [f9.out]; omega
  have bT : ∀ q, F q -> wr.heap[q]? = w.heap[q]? := fun q hq => N5.out.block q (g8.out q hq)
  obtain ⟨ab, ao, e5, qO, I7, C6⟩ := lQ.out (by rw [lU]; omega);subst e5;have aU := dD.out m1 D0 D1;have hM := aU.keep N5.out.size bT;obtain ⟨b, o, Al, cl, K5, E7, I5, Q1, gV, jA, _, d1, _⟩ := hM.rd.cells;have r0 : w.cell? ⟨ab, ao + m1, none⟩ = some (.pointer (some ⟨b, o, none⟩)) := C6 m1 _ (by rw [List.getElem?_map, lW D0, Q1]; rfl);have r1 : wr.cell? ⟨ab, ao + m1, none⟩ = some (.pointer (some ⟨b, o, none⟩)) := (N5.out.cell (p := ⟨ab, ao + m1, none⟩) I7).trans r0;have q5 : N = if ix <= j.segs[m1].first then aN9 j.segs ix m1 else k := by
   obtain ⟨m, hm⟩ : ∃ m, k = m + 2 := ⟨k - 2, by omega⟩
   have e1 : m1 = m + 1 := by omega
   subst e1;rw [Z0.out, hm];show (match j.segs[m + 1]? with | some s => _ | none => _) = _
   rw [lW D1]
  have t8 := bJ9 D1;have J4 := bP9 D1;rw [show m1 + 1 = k by omega] at t8 J4;have Q6 := bJ8 (fun s hs => (m3.out s hs).2) nl D9.out.symm (nl - k) (by omega);rw [show nl - (nl - k) = k by omega] at Q6;have bW := m3.out j.segs[m1] (lX D1);have cI : (k : Int) - 1 = (m1 : Int) := by omega
  have jV : IntKind.i64.wrap (m1 : Int) = (m1 : Int) := mH _ (by omega);have dW : m1 < nl := by omega
  have R4 : (m1 : Int) < (nl : Int) := by omega
  have oC : (1 : Int) < (k : Int) := by omega
  rw [Q1] at hM aU;obtain ⟨s, hs⟩ : ∃ s, s = j.segs[m1] := ⟨_, rfl⟩
  rw [<- hs] at hM aU d1 q5 t8 J4 bW;obtain ⟨fi, nP⟩ : ∃ x, x = s.first := ⟨_, rfl⟩
  rw [<- nP] at d1 q5;have HM := qZ aU;have L4 := qZ hM.long;have B9 := qZ q5;have fQ := qZ J4;have Z2 := qZ r0;obtain ⟨fk, iQ⟩ : ∃ x, x = aH8 j k := ⟨_, rfl⟩
  obtain ⟨sl, jP⟩ : ∃ x, x = s.long := ⟨_, rfl⟩
  rw [<- iQ] at t8 Q6 ⊢;rw [<- jP] at t8 bW;have Y7 : Hid (Calls Tryz.prog 56 #[.pointer (some ⟨b, o, none⟩)] wr fun e w' => e = .returned (.int .i64 sl) ∧ Below wr.heap.size wr w') := qZ (by rw [jP]; exact L4.out);have tA : IntKind.i64.wrap (fk + sl) = fk + sl := mH _ (by
   have h1 : ((nl - k : Nat) : Int) * 1000000000000 <= 1000000 * 1000000000000 := by omega
   omega)
  have fM := qZ t8;have fI := qZ iQ;clear C6 Q1 hs nP hM aU q5 J4 r0 L4 iQ jP t8 dU gV Q6;by_cases hle : ix <= fi
  rotate_left
  ·have aV : N = k := by rw [B9.out, if_neg hle]
   have l8 := qZ aV;clear B9 Z0 aV;go_wp2_with fail
   go_meet;exact ⟨_, vs, G, by rw [l8.out], by rw [l8.out, fI.out], rfl, by rw [l8.out]; exact hk, by omega, HC, qZ (by rw [l8.out]; exact HA.out), G7⟩
  have pS := qZ (show N = aN9 j.segs ix m1 by rw [B9.out, if_pos hle]);clear B9 Z0;go_wp2_with fail
  refine Y7.out.mono ?_;rintro e w5 ⟨rfl, s9⟩;have S7 := qZ (HC.out.trans (s9.mono S2));have kJ := qZ (HA.out.below s9);clear s9 Y7 HA HC b2 k2 r1 d1;go_upto_region 13 with fail
  have V2 := qZ (g9.out.trans (S7.out.mono j6));have fE := qZ S7.out.drew;have G3 := qZ V2.out.drew;have eD : w0.heap.size <= w5.drew.heap.size := S7.out.size;have kR := qZ (kJ.out.below (lS _ w5).drew);have b5 : w5.drew.cell? ⟨w.heap.size, 0, none⟩ = some (.pointer (some ⟨gj, 0, none⟩)) := (C1.out.below fE.out D6).cell 0;have k5 : w5.drew.cell? ⟨gj, 2, none⟩ = some (.slice (some ⟨ab, ao, none⟩) nl c) := (B4.out.below fE.out (by omega)).cell 2;have r5 : w5.drew.cell? ⟨ab, ao + m1, none⟩ = some (.pointer (some ⟨b, o, none⟩)) := (G3.out.cell (p := ⟨ab, ao + m1, none⟩) I7).trans Z2.out;have P1 := qZ ((HM.out.keep G3.out.size (fun q hq => G3.out.block q (g8.out q hq))).nameJ (HE.out w5.drew (G3.out.mono T8)));have R7 := aJ8 s.k HM.out.rd.num.k;obtain ⟨nm, D3⟩ : ∃ n, n = aA1 s.k := ⟨_, rfl⟩
  have dA := qZ D3;rw [<- D3] at P1 R7;clear D3 S7 V2 kJ;refine wp_region_held_drew (S := fun W => W.cell? ⟨w.heap.size, 0, none⟩ = some (.pointer (some ⟨gj, 0, none⟩)) ∧ W.cell? ⟨gj, 2, none⟩ = some (.slice (some ⟨ab, ao, none⟩) nl c) ∧ W.cell? ⟨ab, ao + m1, none⟩ = some (.pointer (some ⟨b, o, none⟩)) ∧ True) (by kernel_rfl) ⟨b5, k5, r5, trivial⟩ (fun hHeld => ?_);refine zT 0 (k := ?_);refine zT 1 (k := ?_);refine zT 2 (k := ?_);refine zT 3 (k := ?_);refine zT 4 (k := ?_);refine zT 5 (k := ?_);refine zT 6 (k := ?_);refine zT 7 (k := ?_);refine zT 8 (k := ?_);refine zT 9 (k := ?_);simp only [zA, zB, zF, zG, zC, zD, zE];refine zV 10 (k := fun K hK => ?_);simp only [zA, zB];go_simp;refine P1.out.mono ?_;rintro e w6 ⟨rfl, m8⟩;have eE := m8.size;have G5 := qZ (fE.out.trans (m8.mono eD));have G0 := qZ (g9.out.trans (G5.out.mono j6));have V0 := qZ m8;have b6 : w6.cell? ⟨w.heap.size, 0, none⟩ = some (.pointer (some ⟨gj, 0, none⟩)) := (C1.out.below G5.out D6).cell 0;have k6 : w6.cell? ⟨gj, 2, none⟩ = some (.slice (some ⟨ab, ao, none⟩) nl c) := (B4.out.below G5.out (by omega)).cell 2;have r6 : w6.cell? ⟨ab, ao + m1, none⟩ = some (.pointer (some ⟨b, o, none⟩)) := (G0.out.cell (p := ⟨ab, ao + m1, none⟩) I7).trans Z2.out;clear m8 P1 b5 k5 r5 G0;refine hK.out _ _ ⟨b6, k6, r6, trivial⟩ (fun hHeld => ?_);clear hK K;try simp only [zF, zG, zC, zD, zE]
  refine zV 11 (k := fun K hK => ?_);simp only [zA, zB];go_simp;refine (show Calls _ _ _ w6 _ from bQ3 (gj := gj) (g := g) nm (by omega) w6).mono ?_;rintro e w7 ⟨v7, rfl, M2, ⟨F6, f8, rfl⟩, _, m7⟩;have U5 := M2.size;have K9 := qZ (G5.out.trans (M2.mono (by omega)));have V3 := qZ (g9.out.trans (K9.out.mono j6));have p7 := qZ (V0.out.trans (M2.mono eE));have q6 := qZ (m7 (fun x => G x ∨ (w5.drew.heap.size <= x ∧ x < w7.heap.size)) (fun x h1 h2 => .inr ⟨by omega, h2⟩));have b7 : w7.cell? ⟨w.heap.size, 0, none⟩ = some (.pointer (some ⟨gj, 0, none⟩)) := (C1.out.below K9.out D6).cell 0;have k7 : w7.cell? ⟨gj, 2, none⟩ = some (.slice (some ⟨ab, ao, none⟩) nl c) := (B4.out.below K9.out (by omega)).cell 2;have r7 : w7.cell? ⟨ab, ao + m1, none⟩ = some (.pointer (some ⟨b, o, none⟩)) := (V3.out.cell (p := ⟨ab, ao + m1, none⟩) I7).trans Z2.out;clear M2 m7 b6 k6 r6 G5 V0 V3;refine hK.out _ _ ⟨b7, k7, r7, trivial⟩ (fun hHeld => ?_);clear hK K;try simp only [zF, zG, zC, zD, zE]
  refine zV 12 (k := fun K hK => ?_);simp only [zA, zB];go_simp;have t7 : Below w7.heap.size w7 (w7.alloc (.cells #[.func (.func F6) #[] f8] 98)) := (lS _ w7).alloc (lR _) _;have x8 := qZ (K9.out.trans (t7.mono (by omega)));have G2 := qZ (g9.out.trans (x8.out.mono j6));have K7 := qZ (kR.out.below (p7.out.trans (t7.mono (by have := p7.out.size; omega))));have S5 : w0.heap.size <= (w7.alloc (.cells #[.func (.func F6) #[] f8] 98)).heap.size := x8.out.size;have T5 := qZ (aG4 w7 98 [.func (.func F6) #[] f8]);have bA : (w7.alloc (.cells #[.func (.func F6) #[] f8] 98)).cell? ⟨w.heap.size, 0, none⟩ = some (.pointer (some ⟨gj, 0, none⟩)) := (C1.out.below x8.out D6).cell 0;have kA : (w7.alloc (.cells #[.func (.func F6) #[] f8] 98)).cell? ⟨gj, 2, none⟩ = some (.slice (some ⟨ab, ao, none⟩) nl c) := (B4.out.below x8.out (by omega)).cell 2;have rA : (w7.alloc (.cells #[.func (.func F6) #[] f8] 98)).cell? ⟨ab, ao + m1, none⟩ = some (.pointer (some ⟨b, o, none⟩)) := (G2.out.cell (p := ⟨ab, ao + m1, none⟩) I7).trans Z2.out;clear t7 b7 k7 r7 K9 G2;refine hK.out _ _ ⟨bA, kA, rA, trivial⟩ (fun hHeld => ?_);clear hK K;try simp only [zF, zG, zC, zD, zE]
  refine zV 13 (k := fun K hK => ?_);simp only [zA, zB];rw [if_pos (by rfl)];refine aM2 (.tmp 81) (.tmp 93) 110 rfl w0.heap.size 98 .nilFunc 8 Tryz.underlying110 aN2 rfl _ vs rfl K7.out.own (w7.heap.size + 1) (some ⟨w7.heap.size, 0, none⟩) 1 1 [.func (.func F6) #[] f8] rfl rfl T5.out (by simp [Value.oneCell']) (by unfold maxLen; omega) (by omega) S5 ?_;intro vq wq m9 U1 bL;have dG := kR.out.step p7.out q6.out U1 bL m9;have mV := x8.out.grown U1 S5 (fun r hr => (K7.out.own.lt r hr).1);have pG := qZ dG;have N8 := qZ mV;have V6 := qZ (g9.out.trans (N8.out.mono j6));have bq : wq.cell? ⟨w.heap.size, 0, none⟩ = some (.pointer (some ⟨gj, 0, none⟩)) := (C1.out.below N8.out D6).cell 0;have kq : wq.cell? ⟨gj, 2, none⟩ = some (.slice (some ⟨ab, ao, none⟩) nl c) := (B4.out.below N8.out (by omega)).cell 2;have rq : wq.cell? ⟨ab, ao + m1, none⟩ = some (.pointer (some ⟨b, o, none⟩)) := (V6.out.cell (p := ⟨ab, ao + m1, none⟩) I7).trans Z2.out;clear m9 U1 bL dG mV bA kA rA K7 x8 V6;refine hK.out _ _ ⟨bq, kq, rq, trivial⟩ (fun hHeld => ?_);clear hK K;try simp only [zF, zG, zC, zD, zE]
  refine zT 14 (k := ?_);simp only [zA, zB, zF, zG, zC, zD, zE];refine wpAnyH_done (by kernel_rfl) ?_ _;clear hHeld bq kq rq;go_wp2_with fail
  go_roundw
  case rel =>
   refine ⟨m1, vq, vs ++ [.func (.func F6) #[] f8], fun x => G x ∨ (w5.drew.heap.size <= x ∧ x < w7.heap.size), by omega, rfl, by rw [fM.out], rfl, by simp; omega, pS, N8, qZ ?_, qZ (fun x hx => ?_)⟩
   ·rw [fQ.out, mE, mG, List.map_nil, <- dA.out]
    exact pG.out
   rcases hx with hx | hx
   ·exact G7.out x hx
   omega
  case measure => simp [intOf]; omega
 obtain ⟨dv, vs, G, h7, h8, h9, hH, jT, HC, HA, G7⟩ := hcut;subst h7 h8;have aO := h9.symm;clear h9;subst aO;clear G4 b1 j2 e0;have S2 := HC.out.size;have N5 := qZ (g9.out.trans (HC.out.mono j6));have b1 : wc.cell? ⟨w.heap.size, 0, none⟩ = some (.pointer (some ⟨gj, 0, none⟩)) := (C1.out.below HC.out D6).cell 0;have j2 : wc.cell? ⟨gj, 2, none⟩ = some (.slice A nl c) := (B4.out.below HC.out (by omega)).cell 2;have tR : (0 : Int) <= (N : Int) ∧ (N : Int) <= (c : Int) := by omega
 have qR : N <= c := by omega
 have S8 := qZ (bK5 A N c ((i4.map fun a => Value.pointer (some a)).take N) wc (((lQ.out.take N).rd.below N5.out).more N5.out.size) (by rw [lV, lU, f9.out]; omega) (fun u hu => by obtain ⟨a, _, rfl⟩ := List.mem_map.1 (List.mem_of_mem_take hu); rfl) (by omega));have iP := bJ8 (fun s hs => (m3.out s hs).2) nl D9.out.symm (nl - N) (by omega);rw [show nl - (nl - N) = N by omega] at iP;obtain ⟨f1, iN⟩ : ∃ x, x = aH8 j N := ⟨_, rfl⟩
 rw [<- iN] at iP ⊢;have rN : 0 <= f1 ∧ f1 <= 1000000000000000000 := by
  have h1 : ((nl - N : Nat) : Int) * 1000000000000 <= 1000000 * 1000000000000 := by omega
  omega
 have kX := qZ iN;clear iN iP;go_wp2_with fail
 refine S8.out.mono ?_;rintro e w4 ⟨v4, rfl, p9, hZ⟩;obtain ⟨A4, c4, sV, qS, rD, _⟩ := aC2 p9;subst sV;have cW := qZ (HC.out.trans (hZ.mono S2));have eX := qZ (g9.out.trans (cW.out.mono j6));have oR := cW.out.size;have eR := qZ (HA.out.below hZ);have gL : Hid (Own w4 w0.heap.size 108 (.slice A4 N c4) ((i4.take N).map fun a => Value.pointer (some a))) := qZ (by
  unfold Own;rw [lU, lV, f9.out, Nat.min_eq_left hH, List.map_take];exact aZ1 p9 S2)
 have dC := qZ (show ∀ r, (Value.slice A4 N c4).ownBlock = some r -> ¬ G r from fun r hr hg => by
  have h1 := (World.ownsRow.lt p9 r hr).1;have h2 := HA.out.lt r hg;omega)
 clear p9 hZ S8 b1 j2 HA HC N5;go_upto_region 15 with fail
 obtain ⟨wA, S5⟩ : ∃ W, W = w4.alloc (.cells #[.int .i64 1, .int .i64 ix, .int .i64 0, .slice none 0 0, .slice none 0 0] 104) := ⟨_, rfl⟩
 have t7 : Below w4.heap.size w4 wA := by rw [S5]; exact (lS _ w4).alloc (lR _) _
 have dS : Blk wA w4.heap.size 104 #[.int .i64 1, .int .i64 ix, .int .i64 0, .slice none 0 0, .slice none 0 0] := by rw [S5]; exact Blk.new w4 _ _
 obtain ⟨sb, cG⟩ : ∃ n, n = w4.heap.size := ⟨_, rfl⟩
 rw [<- cG] at dS;have cZ := qZ dS;have mO := qZ S5;have qD := qZ cG;have oT := dS.lt;have R9 : w0.heap.size <= sb := by omega
 have x8 := qZ (cW.out.trans (t7.mono oR));have K7 := qZ (eR.out.below t7);have B7 := qZ (Own.below gL.out t7 (lR _));have Z6 := qZ (show ∀ r, (Value.slice A4 N c4).ownBlock = some r -> r < sb from fun r hr => by rw [cG]; exact (gL.out.lt r hr).2);have m0 := qZ (show ∀ x, G x -> x < sb from fun x hx => by rw [cG]; exact eR.out.lt x hx);clear S5 t7 dS cG cW eX eR gL oR;go_upto_region 16 with fail
 rw [<- mO.out, <- qD.out];clear mO;go_upto_if 107 with fail
 go_cut [8, 9] from 106 to 152 (fun c8 c9 wx => ∃ (r9 : Value) (n8 : List Value) (G1 : Nat -> Prop) (C2 : List Addr) (fk ft fr : Int) (al : List aC3), c8 = .int .i64 fr ∧ c9 = r9 ∧ n8.length <= nl + 1 ∧ Hid (bV7 wx w0 F j ix i4 N w.heap.size w0.heap.size sb gj g (.slice A4 N c4) r9 n8 G1 C2 fk ft fr al))
 case first =>
  rcases Nat.eq_zero_or_pos N with gZ | gZ
  ·have lM := qZ gZ
   have jD : ¬ (0 : Int) < (N : Int) := by omega
   clear gZ;go_wp2_with fail
   go_meet;refine ⟨_, vs, G, [], 1, 0, f1, (aO5 j N).map fun x => aC3.rm (aA1 x.k), rfl, rfl, by omega, qZ ⟨x8.out, cZ.out, ?_, K7.out, fun x hx => .inr (by have := G7.out x hx; omega), ⟨fun h => by have := m0.out sb h; omega, fun r hr => dC.out r hr⟩, ⟨by omega, by omega, by omega, by omega⟩, .inl ⟨lM.out, rfl, rfl, rfl, by rw [kX.out, Int.add_zero], rfl⟩⟩⟩;have h1 := B7.out;rw [lM.out] at h1 ⊢
   simpa using h1
  obtain ⟨m1, dU⟩ : ∃ m, m = N - 1 := ⟨_, rfl⟩
  have D1 : m1 < j.segs.length := by rw [<- D9.out]; omega
  have D0 : m1 < i4.length := by rw [f9.out]; omega
  have jD : (0 : Int) < (N : Int) := by omega
  have cI : (N : Int) - 1 = (m1 : Int) := by omega
  have jV : IntKind.i64.wrap (m1 : Int) = (m1 : Int) := mH _ (by omega);have dW : m1 < N := by omega
  have R4 : (m1 : Int) < (N : Int) := by omega
  have G2 := qZ (g9.out.trans (x8.out.mono j6));have hM := dD.out m1 D0 D1;obtain ⟨ob, oo, Al, cl, K5, E7, I5, Q1, gV, jA, _⟩ := hM.rd.cells;obtain ⟨ab, ao, e5, _, I7, C6⟩ := (RdF.of_own (F := fun _ => True) B7.out (fun _ _ _ => trivial)) (by rw [lU, lV, f9.out]; omega);subst e5;have r0 : wA.cell? ⟨ab, ao + m1, none⟩ = some (.pointer (some ⟨ob, oo, none⟩)) := C6 m1 _ (by rw [List.getElem?_map, List.getElem?_take_of_lt (by omega), lW D0, Q1]; rfl);have bW := m3.out j.segs[m1] (lX D1);have oB := lG.out j.segs[m1] (lX D1);rw [Q1] at hM;obtain ⟨s, hs⟩ : ∃ s, s = j.segs[m1] := ⟨_, rfl⟩
  rw [<- hs] at hM bW oB;have HM := qZ hM;have qE := qZ hs;have lK := qZ dU;clear C6 Q1 hs hM dU gV
  -- the box of the old segment
  obtain ⟨wX, eM⟩ : ∃ W, W = wA.alloc (.cells #[.pointer (some ⟨ob, oo, none⟩)] 108) := ⟨_, rfl⟩
  have bC : Below wA.heap.size wA wX := by rw [eM]; exact (lS _ wA).alloc (lR _) _
  have bS : Blk wX wA.heap.size 108 #[.pointer (some ⟨ob, oo, none⟩)] := by rw [eM]; exact Blk.new wA _ _
  obtain ⟨xb, jW⟩ : ∃ n, n = wA.heap.size := ⟨_, rfl⟩
  rw [<- jW] at bS;have lH := qZ bS;have mQ := qZ eM;have qI := qZ jW;have fD := qZ (x8.out.trans (bC.mono (by omega)));have z9 := qZ (g9.out.trans (fD.out.mono j6));have kQ := qZ (K7.out.below bC);have Z9 := qZ (Own.below B7.out bC (lR _));have X9 := qZ (cZ.out.below bC oT);have tC : sb < xb := by omega
  have jX := bS.lt;have x0 : wX.cell? ⟨xb, 0, none⟩ = some (.pointer (some ⟨ob, oo, none⟩)) := bS.cell 0;have gF := qZ (HM.out.keep z9.out.size (fun q hq => z9.out.block q (g8.out q hq)));have kM := qZ (cN2 gF.out (fun q hq => by have := g8.out q hq; have := z9.out.size; omega) (by omega) ix ⟨bQ.1, bR.2⟩);clear eM bC bS jW x8 G2 K7 B7 cZ;go_upto_region 18 with fail
  rw [<- mQ.out, <- qI.out];clear mQ r0;go_wp2_with fail
  refine kM.out.mono ?_;rintro e w6 ⟨cb, E5, x6, x5, rfl, L9, m8⟩;obtain ⟨dO, dP, rE, dQ⟩ := gF.out.ahead_ok ix;obtain ⟨c, iE⟩ : ∃ c, c = s.ahead ix := ⟨_, rfl⟩
  rw [<- iE] at L9 dO dP rE dQ;have pL := qZ iE;have fA := qZ dO;have pM := qZ dP;have pN := qZ dQ;have aS : ∀ q, F q -> q < w6.heap.size := fun q hq => by have := g8.out q hq; have := z9.out.size; have := m8.size; omega
  have e9 := qZ aS;have P7 := qZ (L9.segM dO dP (by omega) dQ);have G5 := qZ (fD.out.trans (m8.mono (by omega)));have G0 := qZ (g9.out.trans (G5.out.mono j6));have kK := qZ (kQ.out.below m8);have Z7 := qZ (Own.below Z9.out m8 (lR _));have X7 := qZ (X9.out.below m8 (by omega));have Y3 := qZ (lH.out.below m8 jX);have aF := qZ L9;have mL := qZ (show (∀ r, x6.ownBlock = some r -> wX.heap.size <= r ∧ r < w6.heap.size) ∧ (∀ r, x5.ownBlock = some r -> wX.heap.size <= r ∧ r < w6.heap.size) from ⟨fun r hr => World.ownsRow.lt L9.ents r hr, fun r hr => World.ownsRow.lt L9.ends r hr⟩);have rF : wX.heap.size <= cb ∧ cb < w6.heap.size := ⟨L9.low, L9.blk.lt⟩;have eE := m8.size;have lI := qZ (P7.out.long);have iF := P7.out.longB;obtain ⟨cg, M4⟩ : ∃ x, x = c.long := ⟨_, rfl⟩
  rw [<- M4] at iF;have kT := qZ M4;have Y5 : Hid (Calls Tryz.prog 56 #[.pointer (some ⟨cb, 0, none⟩)] w6 fun e w' => e = .returned (.int .i64 cg) ∧ Below w6.heap.size w6 w') := qZ (by rw [M4]; exact lI.out);clear L9 m8 iE dO dP dQ aS M4 lI fD z9 kQ Z9 X9 lH gF kM x0;go_wp2_with fail
  refine Y5.out.mono ?_;rintro e w7 ⟨rfl, M2⟩;obtain ⟨wL, eK⟩ : ∃ W, W = w7.alloc (.cells #[.int .i64 cg] 3) := ⟨_, rfl⟩
  have bB : Below w7.heap.size w7 wL := by rw [eK]; exact (lS _ w7).alloc (lR _) _
  have dT : Blk wL w7.heap.size 3 #[.int .i64 cg] := by rw [eK]; exact Blk.new w7 _ _
  obtain ⟨lb, iZ⟩ : ∃ n, n = w7.heap.size := ⟨_, rfl⟩
  rw [<- iZ] at dT;have U5 := M2.size;have Q3 := M2.trans (bB.mono U5);have fW := qZ dT;have C0 := qZ eK;have fZ := qZ iZ;have bV := dT.lt;have rT : w6.heap.size <= lb := by omega
  have S8 := qZ (G5.out.trans (Q3.mono (by omega)));have V5 := qZ (g9.out.trans (S8.out.mono j6));have kN := qZ (kK.out.below Q3);have Z8 := qZ (Own.below Z7.out Q3 (lR _));have O4 := qZ (X7.out.below Q3 (by omega));have B6 := qZ (Y3.out.below Q3 (by omega));have aG := qZ (aF.out.below e9.out Q3);have gD := qZ (HM.out.keep V5.out.size (fun q hq => V5.out.block q (g8.out q hq)));clear eK bB dT iZ M2 Q3 G5 G0 kK Z7 X7 Y3 aF P7 Y5;go_upto_region 20 with fail
  rw [<- C0.out, <- fZ.out];clear C0;have rY := gD.out.longB;obtain ⟨og, J9⟩ : ∃ x, x = s.long := ⟨_, rfl⟩
  rw [<- J9] at rY bW;have lN := qZ J9;have lJ := qZ (fun wy (hb : Below wL.heap.size wL wy) => show Calls Tryz.prog 56 #[.pointer (some ⟨ob, oo, none⟩)] wy fun e w' => e = .returned (.int .i64 og) ∧ Below wy.heap.size wy w' from by rw [J9]; exact (gD.out.keep hb.size (fun q hq => hb.block q (by have := e9.out q hq; omega))).long);clear J9;have x0 : wL.drew.cell? ⟨xb, 0, none⟩ = some (.pointer (some ⟨ob, oo, none⟩)) := B6.out.cell 0;have l0 : wL.drew.cell? ⟨lb, 0, none⟩ = some (.int .i64 cg) := fW.out.cell 0;go_cut [121] from 118 to 121 (fun c121 wx => c121 = .bool (decide (cg < og)) ∧ Hid (Below wL.heap.size wL wx))
  case first =>
   refine wp_region_held_drew (S := fun W => W.cell? ⟨xb, 0, none⟩ = some (.pointer (some ⟨ob, oo, none⟩)) ∧ W.cell? ⟨lb, 0, none⟩ = some (.int .i64 cg) ∧ True ∧ True) (by kernel_rfl) ⟨x0, l0, trivial, trivial⟩ (fun hHeld => ?_);refine zT 0 (k := ?_);refine zT 1 (k := ?_);simp only [zA, zB, zF, zG, zC, zD, zE];refine zV 2 (k := fun K hK => ?_);simp only [zA, zB];go_simp;refine (lJ.out wL.drew (lS _ wL).drew).mono ?_;rintro e w8 ⟨rfl, E2⟩;have E3 : Below wL.heap.size wL w8 := (lS _ wL).drew.trans E2;have S6 := qZ E3;have x1 : w8.cell? ⟨xb, 0, none⟩ = some (.pointer (some ⟨ob, oo, none⟩)) := (B6.out.below E3 B6.out.lt).cell 0;have l1 : w8.cell? ⟨lb, 0, none⟩ = some (.int .i64 cg) := (fW.out.below E3 bV).cell 0;clear E2 E3 x0 l0;refine hK.out _ _ ⟨x1, l1, trivial, trivial⟩ (fun hHeld => ?_);clear hK K;try simp only [zF, zG, zC, zD, zE]
   refine zT 3 (k := ?_);simp only [zA, zB, zF, zG, zC, zD, zE];refine wpAnyH_done (by kernel_rfl) ?_ _;clear hHeld x1 l1;go_wp2_with fail
   go_meet;exact ⟨rfl, S6⟩
  obtain ⟨rfl, cV⟩ := hcut;clear x0 l0;have J2 := cV.out;have fB := qZ (S8.out.trans (J2.mono (by omega)));have eT := qZ (kN.out.below J2);have I0 := qZ (Own.below Z8.out J2 (lR _));have G8 := qZ (O4.out.below J2 O4.out.lt);have p4 := qZ (B6.out.below J2 B6.out.lt);have q9 := qZ (fW.out.below J2 bV);have P8 := qZ (aG.out.below (fun q hq => by have := e9.out q hq; omega) J2);have sQ := J2.size;clear J2 S8 kN Z8 O4 aG;go_upto_if 121 with fail
  go_cut [8, 9] from 118 to 131 (fun c8 c9 wx => ∃ (r9 : Value) (n8 : List Value) (G1 : Nat -> Prop), c8 = .int .i64 (f1 + if cg < og then og - cg else 0) ∧ c9 = r9 ∧ n8.length <= nl + 1 ∧ wL.heap.size <= wx.heap.size ∧ Hid (Below w0.heap.size w0 wx) ∧ Hid (Blk wx sb 104 #[.int .i64 1, .int .i64 ix, .int .i64 0, .slice none 0 0, .slice none 0 0]) ∧ Hid (Blk wx xb 108 #[.pointer (some ⟨ob, oo, none⟩)]) ∧ Hid (bE0 wx F wX.heap.size cb c E5 x6 x5) ∧ Hid (aJ2 wx G1 w0.heap.size gj g r9 n8 ((aO5 j N).map (fun x => aC3.rm (aA1 x.k)) ++ if cg < og then [.cut (aA1 s.k) cg] else [])) ∧ Hid (∀ x, G1 x -> (F x ∨ w.heap.size <= x) ∧ (x < sb ∧ ((Value.slice (some ⟨ab, ao, none⟩) N c4).ownBlock ≠ some x) ∨ x = xb ∨ x = lb)) ∧ Hid (Own wx w0.heap.size 108 (.slice (some ⟨ab, ao, none⟩) N c4) ((i4.take N).map fun a => Value.pointer (some a))))
  case first =>
   by_cases hcut : cg < og
   rotate_left
   ·go_wp2_with fail
    go_meet;exact ⟨_, vs, G, by rw [if_neg (by omega), Int.add_zero], rfl, by omega, sQ, fB, G8, p4, P8, qZ (by rw [if_neg (by omega), List.append_nil]; exact eT.out), qZ (fun x hx => ⟨.inr (by have := G7.out x hx; omega), .inl ⟨m0.out x hx, fun e => dC.out x e hx⟩⟩), I0⟩
   have iT : ∀ {α : Type} (a b : α), (if cg < og then a else b) = a := fun a b => if_pos hcut
   have fS := qZ (iT (og - cg) 0);have fT := qZ (iT [aC3.cut (aA1 s.k) cg] []);have uC : IntKind.i64.wrap (og - cg) = og - cg := mH _ (by omega);have uD : IntKind.i64.wrap (f1 + (og - cg)) = f1 + (og - cg) := mH _ (by omega);have x2 : wc.drew.cell? ⟨xb, 0, none⟩ = some (.pointer (some ⟨ob, oo, none⟩)) := p4.out.cell 0;have l2 : wc.drew.cell? ⟨lb, 0, none⟩ = some (.int .i64 cg) := q9.out.cell 0;clear iT;go_upto_region 21 with fail
   refine wp_region_held_drew (S := fun W => W.cell? ⟨xb, 0, none⟩ = some (.pointer (some ⟨ob, oo, none⟩)) ∧ W.cell? ⟨lb, 0, none⟩ = some (.int .i64 cg) ∧ True ∧ True) (by kernel_rfl) ⟨x2, l2, trivial, trivial⟩ (fun hHeld => ?_);refine zT 0 (k := ?_);refine zT 1 (k := ?_);refine zT 3 (k := ?_);simp only [zA, zB, zF, zG, zC, zD, zE];refine zV 2 (k := fun K hK => ?_);simp only [zA, zB];go_simp;refine (lJ.out wc.drew cV.out.drew).mono ?_;rintro e w8 ⟨rfl, E2⟩;have E3 : Below wc.heap.size wc w8 := (lS _ wc).drew.trans E2;have S6 := qZ E3;have oS := E3.size;have x3 : w8.cell? ⟨xb, 0, none⟩ = some (.pointer (some ⟨ob, oo, none⟩)) := (p4.out.below E3 p4.out.lt).cell 0;have l3 : w8.cell? ⟨lb, 0, none⟩ = some (.int .i64 cg) := (q9.out.below E3 q9.out.lt).cell 0;clear E2 E3 x2 l2;refine hK.out _ _ ⟨x3, l3, trivial, trivial⟩ (fun hHeld => ?_);clear hK K;try simp only [zF, zG, zC, zD, zE]
   refine zT 4 (k := ?_);refine zT 5 (k := ?_);refine zT 6 (k := ?_);simp only [zA, zB, zF, zG, zC, zD, zE];refine wpAnyH_done (by kernel_rfl) ?_ _;clear hHeld;have nF : aY4 w8 (fun x => G x ∨ F x ∨ x = w.heap.size ∨ x = xb ∨ x = lb) ⟨ob, oo, none⟩ s := (gD.out.keep (by omega) (fun q hq => ((S6.out.block q (by have := e9.out q hq; omega)).trans (cV.out.block q (by have := e9.out q hq; omega))))).mono (fun x hx => .inr (.inl hx));have gU : Below w0.heap.size w0 w8 := fB.out.trans (S6.out.mono (by omega));have nY : aK3 w8 (fun x => G x ∨ F x ∨ x = w.heap.size ∨ x = xb ∨ x = lb) gj g (.func (.func 61) #[] #[.pointer (some ⟨w.heap.size, 0, none⟩), .pointer (some ⟨xb, 0, none⟩), .pointer (some ⟨lb, 0, none⟩)]) (.cut (aA1 s.k) cg) := .inr ⟨w.heap.size, xb, lb, ⟨ob, oo, none⟩, s, rfl, ⟨.inr (.inr (.inl rfl)), .inr (.inr (.inr (.inl rfl))), .inr (.inr (.inr (.inr rfl)))⟩, (C1.out.below gU D6).cell 0, x3, l3, by omega, nF, rfl⟩;have pR := qZ nY;have pK := qZ gU;have J1 : Below w8.heap.size w8 (w8.alloc (.cells #[.func (.func 61) #[] #[.pointer (some ⟨w.heap.size, 0, none⟩), .pointer (some ⟨xb, 0, none⟩), .pointer (some ⟨lb, 0, none⟩)]] 98)) := (lS _ w8).alloc (lR _) _;have sL := J1.size;have D7 := qZ J1;have cU := qZ ((eT.out.below S6.out).below J1);have T5 := qZ (aG4 w8 98 [.func (.func 61) #[] #[.pointer (some ⟨w.heap.size, 0, none⟩), .pointer (some ⟨xb, 0, none⟩), .pointer (some ⟨lb, 0, none⟩)]]);obtain ⟨Ad, cd, dR, _, _, _⟩ := cU.out.own.shape;subst dR;have g6 := qZ cU.out.own;clear nF gU nY J1 x3 l3
   go_wp2_with (at_builtin; go_must (refine aB5 rfl (.tmp 128) (.tmp 130) 110 rfl w0.heap.size 98 .nilFunc 8 Tryz.underlying110 aN2 rfl _ _ rfl g6.out (w8.heap.size + 1) (some ⟨w8.heap.size, 0, none⟩) 1 1 [.func (.func 61) #[] #[.pointer (some ⟨w.heap.size, 0, none⟩), .pointer (some ⟨xb, 0, none⟩), .pointer (some ⟨lb, 0, none⟩)]] rfl rfl T5.out (by simp [Value.oneCell']) (by unfold maxLen; omega) (by omega) (by omega) ?_; intro vq wq m9 U1 bL; have pX := qZ m9; have L0 := qZ U1; have pP := qZ bL; clear m9 U1 bL))
   go_meet;have C8 : Below wc.heap.size wc (w8.alloc (.cells #[.func (.func 61) #[] #[.pointer (some ⟨w.heap.size, 0, none⟩), .pointer (some ⟨xb, 0, none⟩), .pointer (some ⟨lb, 0, none⟩)]] 98)) := S6.out.trans (D7.out.mono (by omega));have oE := p4.out.below C8 p4.out.lt;have rS := q9.out.below C8 q9.out.lt;have oA := G8.out.below C8 G8.out.lt;have M9 := P8.out.below (fun q hq => by have := e9.out q hq; omega) C8;have oQ := Own.below I0.out C8 (lR _);have oI := aB2 g6.out oE (by decide);have rW := aB2 g6.out rS (by decide);have rU := aB2 g6.out oA (by decide);have rV := aB2 g6.out M9.blk (by decide);have oV := L0.out.size;refine ⟨vq, vs ++ [.func (.func 61) #[] #[.pointer (some ⟨w.heap.size, 0, none⟩), .pointer (some ⟨xb, 0, none⟩), .pointer (some ⟨lb, 0, none⟩)]], fun x => G x ∨ F x ∨ x = w.heap.size ∨ x = xb ∨ x = lb, by rw [fS.out], rfl, by simp; omega, by omega, qZ ((pK.out.trans (D7.out.mono (by omega))).grown L0.out (by omega) (fun r hr => (g6.out.lt r hr).1)), qZ (oA.grown L0.out (fun e => rU e.symm)), qZ (oE.grown L0.out (fun e => oI e.symm)), qZ (M9.keep oV (fun q hq => L0.out.block q (by have := e9.out q hq; omega) (fun e => by have := (g6.out.lt q e.symm).1; have := g8.out q hq; omega)) L0.out (fun e => rV e) (jrow_type_ne M9.ents g6.out (by decide)) (jrow_type_ne M9.ends g6.out (by decide))), qZ ?_, qZ (fun x hx => ?_), qZ (Own.kept oQ L0.out (jrow_type_ne oQ g6.out (by decide)))⟩;rotate_left
   ·have cD := fun e => (I0.out.lt x e).1
    rcases hx with hx | hx | hx | hx | hx
    ·exact ⟨.inr (by have := G7.out x hx; omega), .inl ⟨m0.out x hx, fun e => dC.out x e hx⟩⟩
    ·exact ⟨.inl hx, .inl ⟨by have := g8.out x hx; omega, fun e => by have := cD e; have := g8.out x hx; omega⟩⟩
    ·exact ⟨.inr (by omega), .inl ⟨by omega, fun e => by have := cD e; omega⟩⟩
    ·exact ⟨.inr (by omega), .inr (.inl hx)⟩
    exact ⟨.inr (by omega), .inr (.inr hx)⟩
   rw [fT.out];refine aJ2.pushes (bl := [.cut (aA1 s.k) cg]) cU.out rfl (fun i h1 h2 => ?_) (by simp [Value.oneCell']) (fun x hx => .inl hx) (fun x hx => ?_) (fun r hr hx => ?_) L0.out pP.out pX.out
   ·obtain rfl : i = 0 := by simp at h1; exact h1
    exact pR.out.keep D7.out.size (fun x hx => D7.out.block x (by
     rcases hx with hx | hx | hx | hx | hx
     ·have := m0.out x hx; omega
     ·have := e9.out x hx; omega
     ·omega
     ·omega
     omega))
   ·rcases hx with hx | hx | hx | hx | hx
    ·have := m0.out x hx; omega
    ·have := e9.out x hx; omega
    ·omega
    ·omega
    omega
   rcases hx with hx | hx | hx | hx | hx
   ·exact cU.out.apart r hr hx
   ·have := (g6.out.lt r hr).1; have := g8.out r hx; omega
   ·have := (g6.out.lt r hr).1; omega
   ·rw [hx] at hr; exact oI hr
   rw [hx] at hr; exact rW hr
  obtain ⟨r9, n8, G1, h8, h9, cO, sR, G4, O3, Y2, I3, eQ, X5, l9⟩ := hcut;subst h8;have aO := h9.symm;clear h9;subst aO;clear fB eT I0 G8 p4 q9 P8 cV;obtain ⟨fr, J3⟩ : ∃ x, x = f1 + if cg < og then og - cg else 0 := ⟨_, rfl⟩
  have rP : 0 <= fr ∧ fr <= 6000000000000000000 := by
   rw [J3];split <;> omega
  have fK := qZ J3;rw [<- J3];have qU : ao = 0 := by
   rcases Own.whole l9.out with ⟨h, _⟩ | ⟨g', cap, L7, h, _⟩
   ·injection h with h _ _; cases h
   injection h with h _ _
   injection h with h
   injection h with _ h _
  subst qU;obtain ⟨L7, Q5, rJ⟩ : ∃ L7, Blk wc ab 108 L7 ∧ N <= L7.size := by
   rcases Own.whole l9.out with ⟨h, _⟩ | ⟨g', cap, L7, h, _, _, hg, h4, _, h5, _⟩
   ·injection h with h _ _; cases h
   injection h with h _ _
   injection h with h
   injection h with h1 _ _
   rw [lU, lV, f9.out, Nat.min_eq_left hH] at h4;exact ⟨L7, by rw [h1]; exact hg, by omega⟩
  have rG := G4.out.size;have sE := l9.out.lt ab rfl;have zr : wc.frozen? ⟨ab, m1, none⟩ = false := Q5.frozen _;have rr : wc.cell? ⟨ab, m1, none⟩ = some (L7[m1]'(by omega)) := (Q5.cell m1).trans (Array.getElem?_eq_getElem _);have p8 := aA0 wc ab m1 (.pointer (some ⟨cb, 0, none⟩));obtain ⟨w9, eG⟩ : ∃ W, W = wc.setCell ⟨ab, m1, none⟩ (.pointer (some ⟨cb, 0, none⟩)) := ⟨_, rfl⟩
  have M7 : Own w9 w0.heap.size 108 (.slice (some ⟨ab, 0, none⟩) N c4) ((i4.take m1 ++ ([⟨cb, 0, none⟩] : List Addr)).map fun a => Value.pointer (some a)) := by
   have Q9 : ((i4.take N).map fun a => Value.pointer (some a)).length = N := by rw [lU, lV, f9.out, Nat.min_eq_left hH]
   have h1 := l9.out;unfold Own at h1 ⊢;rw [Q9] at h1;have h2 := cY1 (i := m1) h1 (.pointer (some ⟨cb, 0, none⟩));rw [<- eG] at h2;have qQ : N = m1 + 1 := by have := lK.out; omega
   have e : ((i4.take N).map fun a => Value.pointer (some a)).set m1 (.pointer (some ⟨cb, 0, none⟩)) = (i4.take m1 ++ ([⟨cb, 0, none⟩] : List Addr)).map fun a => Value.pointer (some a) := by
    rw [qQ, List.take_add_one, lW D0, mE, mE, List.set_append_right _ _ (by rw [lU, lV]; omega)];rw [lU, lV, Nat.min_eq_left (by omega), Nat.sub_self]
    rfl
   rw [e] at h2;have bU : ((i4.take m1 ++ ([⟨cb, 0, none⟩] : List Addr)).map fun a => Value.pointer (some a)).length = N := by rw [lU, lT, lV, Nat.min_eq_left (by omega)]; simp; omega
   rw [bU];exact h2
  rw [<- eG] at p8;have oH := aB2 l9.out O3.out (by decide);have gK := qZ M7;have eZ := qZ (G4.out.grown p8 (by omega) (fun r hr => by injection hr with hr; omega));have m2 := qZ (O3.out.grown p8 (fun e => oH e.symm));have Y4 := qZ (Y2.out.grown p8 (by have := Z6.out ab rfl; intro e; injection e with e; omega));have I4 := qZ (I3.out.keep p8.size (fun q hq => p8.block q (by have := e9.out q hq; omega) (fun e => by injection e with e; have := g8.out q hq; omega)) p8 (fun e => by injection e with e; have := Z6.out ab rfl; omega) (jrow_type_ne I3.out.ents l9.out (by decide)) (jrow_type_ne I3.out.ends l9.out (by decide)));have eS := qZ (eQ.out.other p8 (jrow_type_ne eQ.out.own l9.out (by decide)) (fun r hr hx => by
   injection hr with hr
   subst hr;have h1 := Z6.out ab rfl;rcases (X5.out ab hx).2 with h2 | h2 | h2
   ·exact h2.2 rfl
   ·omega
   omega))
  have mN := qZ eG;have jL := p8.size;clear J3 Q5 p8 eG M7 oH O3 Y2 I3 eQ l9 G4;go_upto_region 24 with fail
  rw [<- mN.out];clear mN zr rr;have V4 := qZ (g9.out.trans (eZ.out.mono j6));have nD := HM.out.keep V4.out.size (fun q hq => V4.out.block q (g8.out q hq));obtain ⟨uK, uL, _, _, _, _, _, hI, _, bX, d0, _⟩ := nD.rd.cells;injection hI with e1 e2 _
  subst e1 e2;obtain ⟨sk, S0⟩ : ∃ x, x = s.k := ⟨_, rfl⟩
  rw [<- S0] at d0 oB;have uE : IntKind.i64.wrap (sk + 1) = sk + 1 := mH _ (by omega);have B8 := qZ S0;have x9 : w9.cell? ⟨xb, 0, none⟩ = some (.pointer (some ⟨ob, oo, none⟩)) := Y4.out.cell 0;have tE : w9.cell? ⟨sb, 0, none⟩ = some (.int .i64 1) := m2.out.cell 0;have tH : w9.frozen? ⟨sb, 0, none⟩ = false := m2.out.frozen _;have J5 := aA0 w9 sb 0 (.int .i64 (sk + 1));obtain ⟨wT, eL⟩ : ∃ W, W = w9.setCell ⟨sb, 0, none⟩ (.int .i64 (sk + 1)) := ⟨_, rfl⟩
  have X8 : Hid (Blk wT sb 104 #[.int .i64 (sk + 1), .int .i64 ix, .int .i64 0, .slice none 0 0, .slice none 0 0]) := qZ (by rw [eL]; exact m2.out.set_ 0 _);rw [<- eL] at J5;have dX := aB2 gK.out m2.out (by decide);have qC := qZ (Own.kept gK.out J5 (.inr dX));have fC := qZ (eZ.out.grown J5 (by omega) (fun r hr => by injection hr with hr; omega));have aH := qZ (I4.out.keep J5.size (fun q hq => J5.block q (by have := e9.out q hq; omega) (fun e => by injection e with e; have := g8.out q hq; omega)) J5 (fun e => by injection e with e; omega) (.inr (aB2 I4.out.ents m2.out (by decide))) (.inr (aB2 I4.out.ends m2.out (by decide))));have pH := qZ (eS.out.other J5 (.inr (aB2 eS.out.own m2.out (by decide))) (fun r hr hx => by
   injection hr with hr
   subst hr;rcases (X5.out sb hx).2 with h2 | h2 | h2
   ·omega
   ·omega
   omega))
  have mP := qZ eL;have tZ := J5.size;have fY : Hid (Calls Tryz.prog 62 #[.pointer (some ⟨cb, 0, none⟩)] wT fun e w' => e = .returned (.tuple #[.int .i64 c.last.1, .int .i64 c.last.2]) ∧ Below wT.heap.size wT w') := qZ ((aH.out.rd fA.out).last (by omega));obtain ⟨tP, bH⟩ : ∃ x, x = c.last.1 := ⟨_, rfl⟩
  obtain ⟨mT, Q4⟩ : ∃ x, x = c.last.2 := ⟨_, rfl⟩
  rw [<- bH, <- Q4] at fY;have V8 := qZ Q4;clear S0 nD J5 eL dX bH Q4 Y4 m2 I4 eS gK eZ bX;go_upto_region 25 with fail
  rw [<- mP.out];clear mP tE tH d0 x9;go_wp2_with fail
  refine fY.out.mono ?_;rintro e x7 ⟨rfl, d8⟩;have cE := d8.size;have p0 := qZ (X8.out.below d8 X8.out.lt);have s2 : x7.cell? ⟨sb, 2, none⟩ = some (.int .i64 0) := p0.out.cell 2;have z2 : x7.frozen? ⟨sb, 2, none⟩ = false := p0.out.frozen _;have a9 := qZ d8;clear d8 fY;go_wp2_with fail
  go_meet;have g7 := aA0 x7 sb 2 (.int .i64 mT);have cC := Own.below qC.out a9.out (lR _);have m7 := pH.out.below a9.out;have M9 := aH.out.below (fun q hq => by have := e9.out q hq; omega) a9.out;have bO : ∀ x, (sb <= x ∧ x ≠ xb ∧ x ≠ lb) -> ¬ G1 x := fun x hx h => by
   rcases (X5.out x h).2 with h2 | h2 | h2
   ·omega
   ·exact hx.2.1 h2
   exact hx.2.2 h2
  refine ⟨_, n8, G1, i4.take m1 ++ ([⟨cb, 0, none⟩] : List Addr), sk + 1, mT, fr, ((aO5 j N).map (fun x => aC3.rm (aA1 x.k)) ++ if cg < og then [.cut (aA1 s.k) cg] else []), rfl, rfl, cO, qZ ⟨(fC.out.trans (a9.out.mono (by omega))).grown g7 (by omega) (fun r hr => by injection hr with hr; omega), p0.out.set_ 2 _, Own.kept cC g7 (.inr (aB2 cC p0.out (by decide))), m7.other g7 (.inr (aB2 m7.own p0.out (by decide))) (fun r hr hx => by injection hr with hr; subst hr; exact bO sb ⟨lR _, by omega, by omega⟩ hx), fun x hx => (X5.out x hx).1, ⟨bO sb ⟨lR _, by omega, by omega⟩, fun r hr hx => ?_⟩, ⟨by omega, by rw [V8.out]; exact dD0 fA.out, by omega, by omega⟩, .inr ⟨m1, s, c, cb, E5, x6, x5, by have := lK.out; omega, ⟨D1, qE.out⟩, pL.out, rfl, (M9.keep g7.size (fun q hq => g7.block q (by have := e9.out q hq; omega) (fun e => by injection e with e; have := g8.out q hq; omega)) g7 (fun e => by injection e with e; omega) (.inr (aB2 M9.ents p0.out (by decide))) (.inr (aB2 M9.ends p0.out (by decide)))).lower (by omega), by rw [B8.out], V8.out, ?_, ?_, ⟨fA.out, pM.out, by omega, pN.out⟩, by omega, bO cb ⟨by omega, by omega, by omega⟩, fun r hr => bO r (by have := mL.out.1 r hr; omega), fun r hr => bO r (by have := mL.out.2 r hr; omega)⟩⟩⟩
  ·have h1 := Z6.out r hr
   rcases (X5.out r hx).2 with h2 | h2 | h2
   ·exact h2.2 hr
   ·omega
   omega
  ·rw [fK.out, kX.out, kT.out, lN.out]
   rfl
  rw [kT.out, lN.out]
  rfl
 obtain ⟨r9, n8, G1, C2, fk, ft, fr, al, h8, h9, cO, N9⟩ := hcut;subst h8;have aO := h9.symm;clear h9;subst aO;clear cZ x8 K7 B7 dC Z6 m0 oT;have rK := N9.out.below.size;have pJ := qZ (g9.out.trans (N9.out.below.mono j6));have nA : ∀ q, F q -> q < wc.heap.size := fun q hq => by have := g8.out q hq; omega
 have pO := qZ nA;clear nA;obtain ⟨nb, dY⟩ : ∃ b, b = dO7 j ix N := ⟨_, rfl⟩
 have Y9 := qZ dY;clear dY;go_upto_region 27 with fail
 go_cut [163] from 153 to 163 (fun c163 wx => c163 = .bool nb ∧ wc.heap.size <= wx.heap.size ∧ Hid (bV7 wx w0 F j ix i4 N w.heap.size w0.heap.size sb gj g (.slice A4 N c4) r9 n8 G1 C2 fk ft fr al))
 case first =>
  rcases N9.out.kind with ⟨k1, k8⟩ | ⟨m1, s, c2, cb, E5, x6, x5, k1, ⟨k2, k3⟩, k4, k5, k6, k8, k9, N0, N2, k7, K4⟩
  ·have hz : ((N : Int) == 0) = true := by rw [k1]; rfl
   have hb : nb = true := by rw [Y9.out, k1]; rfl
   subst hb;clear k1 k8;go_wp2_with fail
   go_meet;exact ⟨rfl, lR _, N9⟩
  have hz : ((N : Int) == 0) = false := beq_eq_false_iff_ne.2 (by omega);have hb : nb = decide (600 <= c2.long) := by rw [Y9.out, k1, bL6 k2, k4, k3]
  have D0 : m1 < i4.length := by rw [f9.out]; omega
  obtain ⟨ab, ao, e5, _, I7, C6⟩ := (RdF.of_own (F := fun _ => True) N9.out.row (fun _ _ _ => trivial)) (by rw [k5]; simp);subst e5;have r0 : wc.cell? ⟨ab, ao + m1, none⟩ = some (.pointer (some ⟨cb, 0, none⟩)) := C6 m1 _ (by
   rw [k5, mE, List.getElem?_append_right (by rw [lU, lV]; omega), lU, lV, Nat.min_eq_left (by omega), Nat.sub_self]
   rfl)
  have cI : (N : Int) - 1 = (m1 : Int) := by omega
  have jV : IntKind.i64.wrap (m1 : Int) = (m1 : Int) := mH _ (by omega);have dW : m1 < N := by omega
  have R4 : (m1 : Int) < (N : Int) := by omega
  have hM := k6.segM k7.1 k7.2.1 (by have := k7.2.2.1; omega) k7.2.2.2;obtain ⟨cg, M4⟩ : ∃ x, x = c2.long := ⟨_, rfl⟩
  have L4 : Hid (Calls Tryz.prog 56 #[.pointer (some ⟨cb, 0, none⟩)] wc fun e w' => e = .returned (.int .i64 cg) ∧ Below wc.heap.size wc w') := qZ (by rw [M4]; exact hM.long);rw [<- M4] at hb;have HB := qZ hb;clear hb M4 hM k1 k3 k4 k5 k6 k7 k8 k9 N0 N2 K4 C6 D0;go_wp2_with fail
  refine L4.out.mono ?_;rintro e w5 ⟨rfl, s9⟩;have eD := s9.size;have S7 := qZ (N9.out.below2 pO.out s9 rK);clear s9 L4 r0;go_wp2_with fail
  go_meet;exact ⟨by rw [HB.out], eD, S7⟩
 obtain ⟨rfl, rL, a7⟩ := hcut;clear N9;have iG : w0.heap.size <= wc.heap.size := a7.out.below.size;have z7 := qZ (g9.out.trans (a7.out.below.mono j6));have O0 := qZ (show ∀ q, F q -> q < wc.heap.size from fun q hq => by have := g8.out q hq; omega);have fL : Hid (fr <= aB7 d.fs) := qZ (by
  refine Int.le_trans ?_ gM.out;rcases a7.out.kind with ⟨k1, _, _, _, k5, _⟩ | ⟨m1, s, c2, cb, E5, x6, x5, k1, ⟨k2, k3⟩, k4, _, _, _, _, N0, _, k7, _⟩
  ·rw [k5, k1, bC4]; simp
  rw [N0, k1, k3];exact dB8 k2 (fun s hs => (m3.out s hs).2.1) (k7.1.ends _ (aV9 (fun e => by have := k7.2.1; rw [e] at this; simp at this))).1)
 have fJ := qZ (a7.out.num.2.2.1);have V9 : Hid (aF4 al = 0) := qZ (by
  rcases a7.out.kind with ⟨_, _, _, _, _, k6⟩ | ⟨m1, s, c2, cb, E5, x6, x5, _, _, _, _, _, _, _, _, N2, _⟩
  ·rw [k6, aU8]
  rw [N2, aL0, aU8, bW8])
 go_upto_if 163 with fail
 go_cut [10, 15] from 153 to 175 (fun c10 c15 wx => ∃ (A5 : Option Addr) (c5 : Nat) (m5 : List Addr) (E6 : List aB1) (FP : Nat -> Prop) (tb : Nat) (s0 : aB1) (jZ : List aD8) (vl ve bv : Value) (bh : List UInt8), c10 = .slice A5 (m5.length + 1) c5 ∧ c15 = bv ∧ m5.length <= nl ∧ bh.length <= 1048600 ∧ (s0.l.length <= 100000000 ∧ s0.long <= 1000000000000) ∧ Hid (Below w0.heap.size w0 wx) ∧ Hid (aF1 wx F w.heap.size w0.heap.size gj g (.slice A5 (m5.length + 1) c5) r9 n8 G1 al m5 E6 FP tb s0 jZ vl ve bv bh) ∧ Hid (bV2 j d l ix = aX6 j d l al fr E6 s0 bh))
 case first =>
  cases nb with
  | false =>
   rcases a7.out.kind with ⟨k1, k8⟩ | ⟨m1, s, c2, cb, E5, x6, x5, k1, ⟨k2, k3⟩, k4, k5, k6, k8, k9, N0, N2, k7, K4⟩
   ·have := Y9.out
    rw [k1] at this;cases this
   have eB : ¬ 600 <= c2.long := by
    have h1 := Y9.out;rw [k1, bL6 k2, <- k3, <- k4] at h1;exact of_decide_eq_false h1.symm
   have D0 : m1 < i4.length := by rw [f9.out]; omega
   have Q9 : (i4.take m1).length = m1 := by rw [lV]; omega
   have S3 : j.segs.take N = j.segs.take m1 ++ [s] := by rw [k1, List.take_add_one, lW k2, <- k3]; rfl
   have M8 := bM8 (d := d) (l := l) (by rw [<- D9.out]; exact HN.out) S3 k4 eB;rw [<- N0, <- N2] at M8;have cH := lG.out s (by rw [k3]; exact lX k2);have bY : aF1 wc F w.heap.size w0.heap.size gj g (.slice A4 N c4) r9 n8 G1 al (i4.take m1) (j.segs.take m1) F cb c2 E5 x6 x5 (.slice none 0 0) [] := by
    refine ⟨a7.out.acts, by rw [<- k5]; exact a7.out.row, by rw [lV, lV, f9.out, <- D9.out], fun i h1 h2 => ?_, fun x hx => ⟨O0.out x hx, .inl hx⟩, a7.out.gl, k6, ⟨⟨none, 0, rfl, lR _, by omega, Rd.none_⟩, .inl rfl⟩, fun x hx => ?_, ⟨k7.1, k7.2.1, by have := k7.2.2.1; omega, k7.2.2.2, by rw [k4]; show 1 <= s.k ∧ s.k <= _; omega⟩⟩
    ·rw [List.getElem_take, List.getElem_take]
     exact (dD.out i (by rw [lV] at h1; omega) (by rw [lV] at h2; omega)).keep z7.out.size (fun q hq => z7.out.block q (g8.out q hq))
    have dI : w0.heap.size <= x -> ¬ F x := fun h hf => by have := g8.out x hf; omega
    rcases hx with hx | hx | hx | hx | hx | hx
    ·exact ⟨a7.out.gs.2 x hx, dI (a7.out.row.lt x hx).1⟩
    ·rw [hx]; exact ⟨K4.2.1, fun hf => by have := g8.out cb hf; have := k6.low; omega⟩
    ·exact ⟨K4.2.2.1 x hx, dI (World.ownsRow.lt k6.ents x hx).1⟩
    ·exact ⟨K4.2.2.2 x hx, dI (World.ownsRow.lt k6.ends x hx).1⟩
    ·cases hx
    exact ⟨a7.out.acts.apart x hx, dI (a7.out.acts.own.lt x hx).1⟩
   have m4 := qZ bY;have I1 := qZ M8;have iD : c2.l.length <= 100000000 ∧ c2.long <= 1000000000000 := by
    have h1 : c2.long ∈ c2.ends := aV9 (fun e => by have := k7.2.1; rw [e] at this; simp at this);rw [k4] at h1;have h2 := (W9.out s (by rw [k3]; exact lX k2)).2 _ (List.mem_of_mem_take h1);rw [<- k4] at h2;exact ⟨k7.2.2.1, h2.2⟩
   have Y6 := qZ (show (i4.take m1).length + 1 = N by omega);have D1 : m1 <= nl := by omega
   clear k1 k2 k3 k4 k5 k6 k7 k8 k9 N0 N2 K4 eB D0 Q9 S3 M8 cH bY;go_wp2_with fail
   go_meet;exact ⟨A4, c4, i4.take m1, j.segs.take m1, F, cb, c2, E5, x6, x5, .slice none 0 0, [], by rw [Y6.out], rfl, by rw [lV]; omega, by simp, iD, qZ a7.out.below, qZ (by rw [Y6.out]; exact m4.out), I1⟩
  | true =>
   have rR := a7.out.fresh.lt;have D3 := a7.out.num;have lC := qZ (bY7 sb 0 ix ft (by omega) D3.2.1 wc (a7.out.fresh.cell 1) (a7.out.fresh.cell 2) rR);obtain ⟨hd, iS⟩ : ∃ x, x = aE4 ix ft := ⟨_, rfl⟩
   have fR := qZ iS;have nW : hd.length <= 1048600 := by
    rw [iS];refine aF3 ?_;have h1 : (cC2 ix).length <= 10 := by
     unfold cC2;split
     ·simp
     exact aM0 _ (by omega)
    have h2 : (aH1 [ft]).length <= 10 := aI7 (z := [ft]) (by intro n hn; obtain rfl := List.mem_singleton.1 hn; exact D3.2.1);rw [lT];omega
   clear iS;go_wp2_with fail
   refine lC.out.mono ?_;rintro e w6 ⟨v6, rfl, Q8, m8⟩;rw [<- fR.out] at Q8;obtain ⟨A6, c6, sX, p1, p2, _⟩ := Q8.shape;subst sX;have S9 := qZ Q8;have eE := m8.size;have b8 := qZ (a7.out.below2 O0.out m8 iG);have U3 := b8.out.fresh;obtain ⟨wI, cQ⟩ : ∃ W, W = w6.setCell ⟨sb, 4, none⟩ (.slice (some ⟨w6.heap.size, 0, none⟩) 1 1) := ⟨_, rfl⟩
   have U0 := aA0 w6 sb 4 (.slice (some ⟨w6.heap.size, 0, none⟩) 1 1);have iW : Blk wI sb 104 #[.int .i64 fk, .int .i64 ix, .int .i64 ft, .slice none 0 0, .slice (some ⟨w6.heap.size, 0, none⟩) 1 1] := by rw [cQ]; exact U3.set_ 4 _
   have cK : wI.heap.size = w6.heap.size := by rw [cQ]; simp
   rw [<- cQ] at U0;obtain ⟨w7, K3⟩ : ∃ W, W = wI.alloc (.cells #[.int .i64 hd.length] 3) := ⟨_, rfl⟩
   have Q2 : Below wI.heap.size wI w7 := by rw [K3]; exact (lS _ wI).alloc (lR _) _
   have pW : Hid (w7.ownsRow w6.heap.size 3 1 (.slice (some ⟨w6.heap.size, 0, none⟩) 1 1) 1 [.int .i64 hd.length]) := qZ (by
    rw [K3, <- cK];exact World.ownsRow_lit wI #[.int .i64 hd.length] 1 (lR _) (by decide) rfl)
   have sI : w6.cell? ⟨sb, 4, none⟩ = some (.slice none 0 0) := U3.cell 4;have zI : w6.frozen? ⟨sb, 4, none⟩ = false := U3.frozen 4;have mM := qZ (show w7 = (w6.setCell ⟨sb, 4, none⟩ (.slice (some ⟨w6.heap.size, 0, none⟩) 1 1)).alloc (.cells #[.int .i64 hd.length] 3) by rw [K3, cQ]);have U5 : w6.heap.size <= w7.heap.size := by have := Q2.size; omega
   have R5 : ∀ q, q ≠ sb -> q < w6.heap.size -> w7.heap[q]? = w6.heap[q]? := fun q h1 h2 => (Q2.block q (by omega)).trans (U0.block q h2 (fun e => by injection e with e; exact h1 e))
   have lF := qZ (iW.below Q2 iW.lt);have Z4 := qZ (Own.below (Own.kept b8.out.row U0 (.inr (aB2 b8.out.row U3 (by decide)))) Q2 (lR _));have U7 := qZ ((b8.out.acts.other U0 (.inr (aB2 b8.out.acts.own U3 (by decide))) (fun r hr hx => by injection hr with hr; subst hr; exact b8.out.gs.1 hx)).below Q2);have fN := qZ (S9.out.kept (fun q hq => R5 q (by have := S9.out.row.base q hq; omega) (S9.out.row.lt q hq)) U5);have p7 := qZ ((b8.out.below.grown U0 (by omega) (fun r hr => by injection hr with hr; rw [<- hr]; exact R9)).trans (Q2.mono (by omega)));have G9 := qZ R5;have sM := b8.out.fresh.lt;clear Q8 m8 U3 cQ Q2 iW K3 U0 R5 S9 lC D3 cK;go_upto_region 30 with fail
   rw [<- mM.out];clear mM sI zI;have eJ : Below w7.heap.size w7 (w7.alloc (.cells #[.pointer (some ⟨sb, 0, none⟩)] 108)) := (lS _ w7).alloc (lR _) _;have tY := eJ.size;have T7 := qZ eJ;have a8 := qZ (Own.below Z4.out eJ (lR _));have qA := qZ (aG4 w7 108 [.pointer (some ⟨sb, 0, none⟩)]);have aY : (C2.map fun a => Value.pointer (some a)).length = N := by
    rcases a7.out.kind with ⟨k1, k2, _⟩ | ⟨m1, s, c2, cb, E5, x6, x5, k1, ⟨k2, _⟩, _, k5, _⟩
    ·rw [k2, k1]; rfl
    rw [k5, lU, lT, lV, f9.out, k1];have : m1 < nl := by rw [D9.out]; exact k2
    simp
    omega
   have N4 := qZ aY;obtain ⟨rl, sD⟩ : ∃ x, x = (C2.map fun a => Value.pointer (some a)).length := ⟨_, rfl⟩
   clear aY eJ;go_wp2_with (at_builtin; go_must (refine aB5 rfl (.tmp 172) (.tmp 174) 49 rfl w0.heap.size 108 (.pointer none) 8 Tryz.underlying49 aV7 rfl _ _ rfl a8.out (w7.heap.size + 1) (some ⟨w7.heap.size, 0, none⟩) 1 1 [.pointer (some ⟨sb, 0, none⟩)] rfl rfl qA.out (by simp [Value.oneCell']) (by rw [N4.out]; unfold maxLen; omega) (by rw [N4.out]; omega) (by omega) ?_; intro eN n7 D4 bN bK; have P3 := qZ D4; have i3 := qZ bN; have fG := qZ bK; clear D4 bN bK))
   go_meet;obtain ⟨eO, gP, p6, _⟩ := P3.out.shape;have iY : (C2.map (fun a => Value.pointer (some a)) ++ [Value.pointer (some ⟨sb, 0, none⟩)]).length = C2.length + 1 := by simp
   rw [iY] at p6;have R8 := i3.out.size;have nZ := lF.out.below T7.out lF.out.lt;have dX := aB2 a8.out nZ (by decide);have oK := World.ownsRow.kept pW.out (aA5 T7.out none) (.inr (by simp [Value.ownBlock]));have jC := World.ownsRow.kept oK i3.out (jrow_type_ne oK a8.out (by decide));have cL : bE0 n7 F w0.heap.size sb ⟨fk, ix, ft, [], [(hd.length : Int)]⟩ [] (.slice none 0 0) (.slice (some ⟨w6.heap.size, 0, none⟩) 1 1) := ⟨nZ.grown i3.out (fun e => dX e.symm), R9, World.ownsRow_nil _ _ _ _, rfl, (fun q hq => by cases hq), aZ1 jC (by omega)⟩;have aX := U7.out.below T7.out;have m7 := aX.other i3.out (jrow_type_ne aX.own a8.out (by decide)) (fun r hr => b8.out.gs.2 r hr);have iR := fN.out.below T7.out (lR _);have J8 : ∀ x, (Value.slice A6 hd.length c6).ownBlock = some x -> wc.heap.size <= x ∧ x < w7.heap.size ∧ ∃ cs, Blk (w7.alloc (.cells #[.pointer (some ⟨sb, 0, none⟩)] 108)) x 5 cs := fun x hx => by
    refine ⟨fN.out.row.base x hx, fN.out.row.lt x hx, ?_⟩;rcases iR.row with h1 | ⟨g', _, _, L7, h1, _, hB, _⟩
    ·rw [h1] at hx; cases hx
    rw [h1] at hx;injection hx with hx
    subst hx;exact ⟨_, hB⟩
   have bE := (iR.kept (fun q hq => i3.out.block q (iR.row.lt q hq) (fun e => by
    obtain ⟨_, _, cs, hB⟩ := J8 q hq;exact aB2 a8.out hB (by decide) e.symm)) i3.out.size).mono (by omega : w0.heap.size <= wc.heap.size)
   have gW : ∀ x, G1 x -> x < wc.heap.size := a7.out.acts.lt
   have L8 : ∀ x, eN.ownBlock = some x -> ((Value.slice A4 N c4).ownBlock = some x) ∨ (w7.alloc (.cells #[.pointer (some ⟨sb, 0, none⟩)] 108)).heap.size <= x := fun x hx => by
    rcases fG.out with e | ⟨q, e, hq⟩
    ·exact .inl (e ▸ hx)
    rw [hx] at e;injection e with e
    exact .inr (by omega)
   have x4 : bG2 ⟨fk, ix, ft, [], [(hd.length : Int)]⟩ := ⟨by have := a7.out.num.1; show -9223372036854775808 <= fk ∧ fk <= 9223372036854775807; omega, bQ, a7.out.num.2.1, (fun e he => by cases he), fun x hx => by rw [List.mem_singleton.1 hx]; omega⟩;have nV : ∀ x, G1 x -> F x ∨ w.heap.size <= x := a7.out.gl
   have P9 : Below w0.heap.size w0 n7 := (p7.out.trans (T7.out.mono (by omega))).grown i3.out (by omega) (fun r hr => (a8.out.lt r hr).1);have i6 : ∀ x, F x -> x < w.heap.size := g8.out
   have iL := a7.out.acts.own.lt;have cR : ∀ x, eN.ownBlock = some x ∨ x = sb ∨ (Value.slice none 0 0).ownBlock = some x ∨ (Value.slice (some ⟨w6.heap.size, 0, none⟩) 1 1).ownBlock = some x ∨ (Value.slice A6 hd.length c6).ownBlock = some x ∨ r9.ownBlock = some x -> ¬ G1 x ∧ w0.heap.size <= x := fun x hx => by
    rcases hx with hx | hx | hx | hx | hx | hx
    ·rcases L8 x hx with h1 | h1
     ·exact ⟨a7.out.gs.2 x h1, (a7.out.row.lt x h1).1⟩
     exact ⟨fun h => by have := gW x h; omega, by omega⟩
    ·rw [hx]; exact ⟨a7.out.gs.1, R9⟩
    ·cases hx
    ·have tB : w6.heap.size = x := by simpa [Value.ownBlock] using hx
     exact ⟨fun h => by have := gW x h; omega, by omega⟩
    ·exact ⟨fun h => by have := gW x h; have := (J8 x hx).1; omega, by have := (J8 x hx).1; omega⟩
    exact ⟨a7.out.acts.apart x hx, (iL x hx).1⟩
   rcases b8.out.kind with ⟨k1, k2, k3, k4, k5, k6⟩ | ⟨m1, s, c2, cb, E5, x6, x5, k1, ⟨k2, k3⟩, k4, k5, k6, k8, k9, N0, N2, k7, K4⟩
   ·refine ⟨eO, gP, [], [], F, sb, ⟨fk, ix, ft, [], [(hd.length : Int)]⟩, [], .slice none 0 0, .slice (some ⟨w6.heap.size, 0, none⟩) 1 1, .slice A6 hd.length c6, hd, by rw [p6, k2] <;> rfl, rfl, by simp, nW, ⟨by simp, by show (hd.length : Int) <= _; omega⟩, qZ P9, qZ ⟨m7, ?_, rfl, fun i h1 h2 => by simp at h1, fun x hx => ⟨by have := i6 x hx; omega, .inl hx⟩, nV, cL, bE, fun x hx => ?_, ⟨x4, rfl, by simp, (fun e he => by cases he), a7.out.num.1⟩⟩, qZ ?_⟩
    ·have h1 := P3.out
     rw [p6, k2] at h1;exact h1
    ·rw [show (Value.slice eO (([] : List Addr).length + 1) gP) = eN by rw [p6, k2]] at hx
     have h1 := cR x hx;exact ⟨h1.1, fun hf => by have := i6 x hf; omega⟩
    have h1 := bD5 (d := d) (l := l) (by rw [<- D9.out]; exact HN.out) (show j.segs.take N = [] by rw [k1]; rfl);rw [h1, k6, k5, fR.out, k3, k4]
   have eB : 600 <= c2.long := by
    have h1 := Y9.out;rw [k1, bL6 k2, <- k3, <- k4] at h1;exact of_decide_eq_true h1.symm
   have D0 : m1 < i4.length := by rw [f9.out]; omega
   have S3 : j.segs.take N = j.segs.take m1 ++ [s] := by rw [k1, List.take_add_one, lW k2, <- k3]; rfl
   have M8 := bM7 (d := d) (l := l) (by rw [<- D9.out]; exact HN.out) S3 k4 eB;rw [<- N0, <- N2, <- k8, <- k9, <- fR.out] at M8;have jQ := k6.keepB U5 (fun x hx => by
    rcases hx with hx | hx | hx | hx
    ·exact G9.out x (by have := i6 x hx; omega) (by have := i6 x hx; omega)
    ·rw [hx]; exact G9.out cb (by have := K4.1; omega) k6.blk.lt
    ·exact G9.out x (fun e => aB2 k6.ents b8.out.fresh (by decide) (e ▸ hx)) (World.ownsRow.lt k6.ents x hx).2
    exact G9.out x (fun e => aB2 k6.ends b8.out.fresh (by decide) (e ▸ hx)) (World.ownsRow.lt k6.ends x hx).2)
   have f7 := jQ.below (fun q hq => by have := i6 q hq; omega) T7.out;have i2 := f7.keep i3.out.size (fun q hq => i3.out.block q (by have := i6 q hq; omega) (fun e => by have := (a8.out.lt q e.symm).1; have := i6 q hq; omega)) i3.out (fun e => aB2 a8.out f7.blk (by decide) e) (jrow_type_ne f7.ents a8.out (by decide)) (jrow_type_ne f7.ends a8.out (by decide));have gY := i2.segMx k7.1 k7.2.1 (by have := k7.2.2.1; omega) k7.2.2.2;have aZ : C2.length = N := by have := N4.out; rwa [lU] at this
   have bG : ∀ x, (eN.ownBlock = some x ∨ x = sb ∨ (Value.slice none 0 0).ownBlock = some x ∨ (Value.slice (some ⟨w6.heap.size, 0, none⟩) 1 1).ownBlock = some x ∨ (Value.slice A6 hd.length c6).ownBlock = some x ∨ r9.ownBlock = some x) -> x ≠ cb ∧ x6.ownBlock ≠ some x ∧ x5.ownBlock ≠ some x := fun x hx => by
    have tU := k6.blk.lt;have oF := fun e => (World.ownsRow.lt k6.ents x e).2
    have oG := fun e => (World.ownsRow.lt k6.ends x e).2
    rcases hx with hx | hx | hx | hx | hx | hx
    ·rcases L8 x hx with h1 | h1
     ·refine ⟨fun e => aB2 a8.out f7.blk (by decide) (e ▸ h1), fun e => ?_, fun e => ?_⟩
      ·rcases jrow_type_ne f7.ents a8.out (by decide) with h2 | h2
       ·rw [h2] at e; cases e
       exact h2 (e.trans h1.symm)
      rcases jrow_type_ne f7.ends a8.out (by decide) with h2 | h2
      ·rw [h2] at e; cases e
      exact h2 (e.trans h1.symm)
     exact ⟨by omega, fun e => by have := oF e; omega, fun e => by have := oG e; omega⟩
    ·subst hx
     exact ⟨by have := K4.1; omega, aB2 k6.ents b8.out.fresh (by decide), aB2 k6.ends b8.out.fresh (by decide)⟩
    ·cases hx
    ·have tB : w6.heap.size = x := by simpa [Value.ownBlock] using hx
     exact ⟨by omega, fun e => by have := oF e; omega, fun e => by have := oG e; omega⟩
    ·obtain ⟨_, _, cs, hB⟩ := J8 x hx
     exact ⟨fun e => by subst e; exact blk_ne hB f7.blk (by decide) rfl, aB2 f7.ents hB (by decide), aB2 f7.ends hB (by decide)⟩
    refine ⟨fun e => aB2 aX.own f7.blk (by decide) (e ▸ hx), fun e => ?_, fun e => ?_⟩
    ·rcases jrow_type_ne f7.ents aX.own (by decide) with h2 | h2
     ·rw [h2] at e; cases e
     exact h2 (e.trans hx.symm)
    rcases jrow_type_ne f7.ends aX.own (by decide) with h2 | h2
    ·rw [h2] at e; cases e
    exact h2 (e.trans hx.symm)
   have C3 := g9.out.trans (P9.mono j6);refine ⟨eO, gP, C2, j.segs.take m1 ++ [c2], fun x => F x ∨ x = cb ∨ x6.ownBlock = some x ∨ x5.ownBlock = some x, sb, ⟨fk, ix, ft, [], [(hd.length : Int)]⟩, [], .slice none 0 0, .slice (some ⟨w6.heap.size, 0, none⟩) 1 1, .slice A6 hd.length c6, hd, p6, rfl, by omega, nW, ⟨by simp, by show (hd.length : Int) <= _; omega⟩, qZ P9, qZ ⟨m7, ?_, ?_, fun i h1 h2 => ?_, fun x hx => ?_, nV, cL, bE, fun x hx => ?_, ⟨x4, rfl, by simp, (fun e he => by cases he), a7.out.num.1⟩⟩, qZ M8⟩
   ·have h1 := P3.out
    rw [p6] at h1;rw [mE];exact h1
   ·rw [aZ, k1, lT, lV]; simp; omega
   ·by_cases hi : i < m1
    ·have e1 : C2[i] = i4[i]'(by omega) := by
      simp only [k5];rw [List.getElem_append_left (by rw [lV]; omega), List.getElem_take]
     have e2 : (j.segs.take m1 ++ [c2])[i] = j.segs[i]'(by omega) := by
      rw [List.getElem_append_left (by rw [lV]; omega), List.getElem_take]
     rw [e1, e2];exact ((dD.out i (by omega) (by omega)).keep C3.size (fun q hq => C3.block q (i6 q hq))).mono (fun x hx => .inl hx)
    have ei : i = m1 := by omega
    subst ei;have e1 : C2[i] = (⟨cb, 0, none⟩ : Addr) := by
     simp only [k5];rw [List.getElem_append_right (by rw [lV]; omega)];simp
    have e2 : (j.segs.take i ++ [c2])[i] = c2 := by
     rw [List.getElem_append_right (by rw [lV]; omega)];simp
    rw [e1, e2];exact gY
   ·rcases hx with hx | hx | hx | hx
    ·exact ⟨by have := i6 x hx; have := C3.size; omega, .inl hx⟩
    ·rw [hx]; exact ⟨i2.blk.lt, .inr i2.low⟩
    ·exact ⟨(World.ownsRow.lt i2.ents x hx).2, .inr (World.ownsRow.lt i2.ents x hx).1⟩
    exact ⟨(World.ownsRow.lt i2.ends x hx).2, .inr (World.ownsRow.lt i2.ends x hx).1⟩
   rw [<- p6] at hx;have h1 := cR x hx;have h2 := bG x hx;refine ⟨h1.1, ?_⟩;rintro (h3 | h3 | h3 | h3)
   ·have := i6 x h3; omega
   ·exact h2.1 h3
   ·exact h2.2.1 h3
   exact h2.2.2 h3
 obtain ⟨A5, c5, m5, E6, FP, tb, s0, jZ, vl, ve, bv, bh, qL, mU, rZ, iB, ⟨sG, sF⟩, HC, m4, I1⟩ := hcut;subst qL;have gS := mU.symm;clear mU;subst gS;clear a7 O0 z7;have sO := HC.out.size;have z8 := qZ (g9.out.trans (HC.out.mono j6));obtain ⟨mp, bZ⟩ : ∃ x, x = m5.length := ⟨_, rfl⟩
 have tL := qZ bZ;rw [<- bZ] at m4 rZ ⊢;obtain ⟨ab, ao, e5, _, I7, C6⟩ := (RdF.of_own (F := fun _ => True) m4.out.row (fun _ _ _ => trivial)) (by simp);subst e5;have r0 : wc.cell? ⟨ab, ao + mp, none⟩ = some (.pointer (some ⟨tb, 0, none⟩)) := C6 mp _ (by
  rw [mE, List.getElem?_append_right (by rw [lU, bZ]; exact lR _), lU, bZ, Nat.sub_self]
  rfl)
 have rH : ((mp + 1 : Nat) : Int) - 1 = (mp : Int) := by omega
 have nL : (mp : Int) + 1 - 1 = (mp : Int) := by omega
 have jV : IntKind.i64.wrap (mp : Int) = (mp : Int) := mH _ (by omega);have dW : mp < mp + 1 := by omega
 have R4 : (mp : Int) < (mp : Int) + 1 := by omega
 have kE : ∀ q, E q -> wc.heap[q]? = w.heap[q]? := fun q hq => z8.out.block q (kW.out q hq)
 have kU := qZ (bK8 (some ⟨eb, eo, none⟩) rs ce wc (lY.out.keep z8.out.size kE) (fun q hq => (cX.out q hq).keep z8.out.size kE) (fun q hq => by have := kW.out q hq; have := z8.out.size; omega) (by omega) (fun q hq => by have := bZ4 P0.out.symm q.e (by rw [O8.out]; exact List.mem_map.2 ⟨q, hq, rfl⟩); omega));clear C6 bZ kE;go_wp2_with fail
 refine kU.out.mono ?_;rintro e wq ⟨vq, K5, rfl, R6, R3, nH, dN⟩;obtain ⟨Aq, cq, sZ, uI, uJ, _⟩ := aC2 R6;subst sZ;have sC : K5.length = rs.length := by have := congrArg List.length R3; simpa using this
 have oV := dN.size;obtain ⟨D, hD⟩ : ∃ D : Nat -> Prop, D = fun x => wc.heap.size <= x ∧ x < wq.heap.size := ⟨_, rfl⟩
 have D8 : Hid (∀ x, D x ↔ wc.heap.size <= x ∧ x < wq.heap.size) := qZ (fun x => by rw [hD]);have X1 : Hid (∀ q, F q -> q < wc.heap.size) := qZ (fun q hq => by have := g8.out q hq; have := z8.out.size; omega);have qB := qZ (RdF.of_row (F := D) R6 (fun k h1 h2 => (D8.out k).2 ⟨h1, h2⟩) (by rw [aC0]; omega));have kV : Hid (∀ q ∈ K5, bB7 wq D q.v q.e.b) := qZ (fun q hq => by
  have h1 := nH q hq;obtain ⟨A1, c1, e1, k1, k2, _⟩ := aD5 h1;rw [e1] at h1;exact ⟨A1, c1, e1, k1, k2, RdF.of_own h1 (fun k h2 h3 => (D8.out k).2 ⟨h2, h3⟩)⟩)
 have lL := qZ ((m4.out.below2 X1.out dN).monoF (F' := fun x => F x ∨ D x) (fun q hq => .inl hq));have gC : Hid (K5.map aD8.e = l) := qZ (by rw [O8.out]; exact R3);have gA := qZ m4.out.wrlt;have G7 := qZ m4.out.gl;have pT : Hid (∀ e ∈ l, ((-9223372036854775808 <= e.ix ∧ e.ix <= 9223372036854775807) ∧ (-9223372036854775808 <= e.tm ∧ e.tm <= 9223372036854775807) ∧ (-9223372036854775808 <= e.kd ∧ e.kd <= 9223372036854775807)) ∧ e.b.length <= 65535) := qZ (fun e he => by
  have h1 := bZ4 P0.out.symm e he;rw [O8.out] at he;obtain ⟨q, hq, rfl⟩ := List.mem_map.1 he;exact ⟨Z1.out q hq, h1⟩)
 have N8 := qZ (HC.out.trans (dN.mono sO));have tV : l.length = rs.length := by rw [O8.out, lU]
 have B2 : Hid (∀ k, ((l.take k).map aC9).flatten.length <= 1000000000) := qZ (fun k => by
  have h1 : (l.map aC9).flatten.length = ((l.take k).map aC9).flatten.length + ((l.drop k).map aC9).flatten.length := by
   rw [<- lT, <- List.flatten_append, <- mE, List.take_append_drop]
  omega)
 clear R6 R3 nH dN hD m4 kU nQ HC;go_wp2_with fail
 go_loopw [185, 15, 18, 19] (fun i bvv _ _ wr => ∃ (k : Nat) (n6 : List aD8) (kC kB dF : Value), k <= rs.length ∧ i = .int .i64 k ∧ bvv = dF ∧ Hid (Below w0.heap.size w0 wr) ∧ Hid (wq.heap.size <= wr.heap.size ∧ ∀ x, D x -> wr.heap[x]? = wq.heap[x]?) ∧ Hid (aF1 wr (fun x => F x ∨ D x) w.heap.size w0.heap.size gj g (.slice (some ⟨ab, ao, none⟩) (mp + 1) c5) r9 n8 G1 al m5 E6 FP tb (aA6 s0 (l.take k)) n6 kC kB dF (bh ++ ((l.take k).map aC9).flatten)) ∧ Hid (∀ x, x = tb ∨ kC.ownBlock = some x ∨ kB.ownBlock = some x ∨ dF.ownBlock = some x -> x < wc.heap.size ∨ wq.heap.size <= x)) (fun i _ _ _ _ => rs.length - (intOf i).toNat)
 case atStart => exact ⟨0, jZ, vl, ve, bv, by omega, rfl, rfl, N8, qZ ⟨lR _, fun _ _ => rfl⟩, qZ (by simpa [aA6] using lL.out), qZ (fun x hx => .inl (gA.out x (by rcases hx with h | h | h | h; exact .inr (.inl h); exact .inr (.inr (.inl h)); exact .inr (.inr (.inr (.inl h))); exact .inr (.inr (.inr (.inr (.inl h)))))).2)⟩
 obtain ⟨k, n6, kC, kB, dF, hk, rfl, nI, HB, W5, HM, HW⟩ := hrel;have iC := nI.symm;clear nI;subst iC;clear lL N8;have S2 := HB.out.size;have tW := W5.out.1;have V7 := qZ (g9.out.trans (HB.out.mono j6));have B1 : Hid (∀ q, (F q ∨ D q) -> q < wr.heap.size) := qZ (fun q hq => by
  rcases hq with hq | hq
  ·have := X1.out q hq; omega
  have := ((D8.out q).1 hq).2; omega)
 by_cases hlt : k < rs.length
 ·have R1 : k < K5.length := by omega
  obtain ⟨qb, qo, dG, mW, jG, oM⟩ := qB.out (by rw [aC0]; omega);subst dG;have kD : wr.heap[qb]? = wq.heap[qb]? := W5.out.2 qb mW;obtain ⟨q, hq⟩ : ∃ q, q = K5[k] := ⟨_, rfl⟩
  have jH : q ∈ K5 := by rw [hq]; exact lX R1
  have jF : l[k]? = some q.e := by rw [<- gC.out, List.getElem?_map, lW R1, hq]; rfl
  have R7 := pT.out q.e (List.mem_of_getElem? jF);have fF := qZ (kV.out q jH);obtain ⟨Av, cv, oN, uA, uB, oW⟩ := kV.out q jH;have bF : ∀ j u, (aM6 q)[j]? = some u -> j < 4 -> wr.cell? ⟨qb, qo + k * 4 + j, none⟩ = some u := fun j u hu hj => (World.cell?_of_block kD).trans (by
   have := oM (k * 4 + j) u (by rw [aE6 K5 R1 hj, <- hq]; exact hu)
   rwa [<- Nat.add_assoc] at this)
  have S3 : l.take (k + 1) = l.take k ++ [q.e] := by rw [List.take_add_one, jF]; rfl
  obtain ⟨qv, ⟨l5, l7, l6, qd⟩⟩ := q;have jI : qv = .slice Av qd.length cv := oN;subst jI;have qX : wr.cell? ⟨qb, qo + k * 4, none⟩ = some (.int .i64 l5) := bF 0 (.int .i64 l5) rfl (by omega);have qY : wr.cell? ⟨qb, qo + k * 4 + 1, none⟩ = some (.int .i64 l7) := bF 1 (.int .i64 l7) rfl (by omega);have rB : wr.cell? ⟨qb, qo + k * 4 + 2, none⟩ = some (.int .i64 l6) := bF 2 (.int .i64 l6) rfl (by omega);have rC : wr.cell? ⟨qb, qo + k * 4 + 3, none⟩ = some (.slice Av qd.length cv) := bF 3 (.slice Av qd.length cv) rfl (by omega);have gO := qZ S3;have gJ := qZ R7;have jE : qd.length <= 65535 := R7.2;have qF : Hid (RdF wq D Av (cells qd)) := qZ oW;obtain ⟨wE, eH⟩ : ∃ W, W = wr.alloc (.cells #[.int .i64 l5, .int .i64 l7, .int .i64 l6, .slice Av qd.length cv] 65) := ⟨_, rfl⟩
  have iA : Below wr.heap.size wr wE := by rw [eH]; exact (lS _ wr).alloc (lR _) _
  have iV : Blk wE wr.heap.size 65 #[.int .i64 l5, .int .i64 l7, .int .i64 l6, .slice Av qd.length cv] := by rw [eH]; exact Blk.new wr _ _
  have sK := iA.size;have qH := qZ eH;have eV := qZ iA;have T3 := qZ iV;have iX := iV.lt;clear bF kD oM hq jH jF R7 S3 oN oW eH iA iV mW jG;go_upto_region 35 with fail
  rw [<- qH.out];have e0 : wE.cell? ⟨wr.heap.size, 0, none⟩ = some (.int .i64 l5) := T3.out.cell 0;have e1 : wE.cell? ⟨wr.heap.size, 1, none⟩ = some (.int .i64 l7) := T3.out.cell 1;have e2 : wE.cell? ⟨wr.heap.size, 2, none⟩ = some (.int .i64 l6) := T3.out.cell 2;have e3 : wE.cell? ⟨wr.heap.size, 3, none⟩ = some (.slice Av qd.length cv) := T3.out.cell 3;have cX : Hid (RdF wE D Av (cells qd)) := qZ (qF.out.keep (by omega) (fun x hx => (eV.out.block x (by have := ((D8.out x).1 hx).2; omega)).trans (W5.out.2 x hx)));obtain ⟨pp, U4⟩ : ∃ p, p = aC9 ⟨l5, l7, l6, qd⟩ := ⟨_, rfl⟩
  have tM := qZ U4;have lO : Hid (Calls Tryz.prog 65 #[.agg #[.int .i64 l5, .int .i64 l7, .int .i64 l6, .slice Av qd.length cv]] wE fun e w' => ∃ v, e = .returned v ∧ Got w' wE.heap.size v pp ∧ Below wE.heap.size wE w') := qZ (by rw [U4]; exact cN6 Av ⟨l5, l7, l6, qd⟩ cv wE cX.out.rd (by simp only; omega) gJ.out.1.2.1 gJ.out.1.2.2);obtain ⟨bk, bD⟩ : ∃ b, b = bh ++ ((l.take k).map aC9).flatten := ⟨_, rfl⟩
  have tI := qZ bD;have qV : bk.length + pp.length <= 1001048600 := by
   have h := B2.out (k + 1);rw [gO.out, mE, List.flatten_append, lT] at h;have h2 : (([⟨l5, l7, l6, qd⟩] : List aF9).map aC9).flatten.length = pp.length := by rw [U4]; simp
   have h3 : (List.map aC9 [(aD8.e { v := Value.slice Av qd.length cv, e := { ix := l5, tm := l7, kd := l6, b := qd } })]).flatten.length = pp.length := h2;rw [h3] at h;rw [bD, lT];omega
  have jO : (aA6 s0 (l.take k)).l.length <= 102000000 := by
   rw [(aK5 (l.take k) s0).1, lT, lV];omega
  have oP : n6.length <= 102000000 := by
   have h := congrArg List.length HM.out.tgt.map;rw [lU] at h;omega
  have jN : (aA6 s0 (l.take k)).long <= 1001000000000 := by
   rw [bE1];have := B2.out k;omega
  have aD : Hid (aA6 s0 (l.take (k + 1)) = { aA6 s0 (l.take k) with l := (aA6 s0 (l.take k)).l ++ [⟨l5, l7, l6, qd⟩], ends := (aA6 s0 (l.take k)).ends ++ [(aA6 s0 (l.take k)).long + (pp.length : Int)] }) := qZ (by rw [gO.out, bE2, U4]);have eW : Hid (bh ++ ((l.take (k + 1)).map aC9).flatten = bk ++ pp) := qZ (by rw [gO.out, bD, U4, mE, List.flatten_append, List.append_assoc]; simp);obtain ⟨sk, cH⟩ : ∃ s, s = aA6 s0 (l.take k) := ⟨_, rfl⟩
  rw [<- cH] at HM aD jO jN;rw [<- bD] at HM;clear cH bD U4;obtain ⟨U6, aM, jT, _⟩ := aC2 HM.out.tgt.ents;subst jT;obtain ⟨E7, I5, oX, _⟩ := Own.shape HM.out.tgt.ends;rw [lU] at oX;subst oX;obtain ⟨pD, E1, jS, _⟩ := HM.out.bytes.shape;subst jS;clear qX qY rB rC;go_wp2_with fail
  refine lO.out.mono ?_;rintro e w5 ⟨v5, rfl, nS, s9⟩;obtain ⟨pC, qJ, sW, p1, p2, p3⟩ := nS.shape;subst sW;have eD := s9.size;have gB := qZ ((HM.out.below2 B1.out eV.out).below2 (fun q hq => by have := B1.out q hq; omega) s9);have Y0 := qZ (T3.out.below s9 iX);have eU := qZ (eV.out.trans (s9.mono sK));have pY := qZ p3;clear nS s9 lO e0 e1 e2 e3 p3 T3 cX;go_upto_region 37 with (at_builtin; go_must (refine bB5 rfl (.tmp 191) (.tmp 192) rfl w0.heap.size _ bk rfl gB.out.bytes w5.heap.size pC qJ pp rfl pY.out (by omega) (by omega) ?_; intro v6 w6 Q8 bP nN; have S9 := qZ Q8; have q7 := qZ bP; have kY := qZ nN; clear Q8 bP nN))
  have jU := HM.out.wrlt;have oJ : ∀ q, (F q ∨ D q) -> (q = tb ∨ (Value.slice U6 n6.length aM).ownBlock = some q ∨ (Value.slice E7 sk.ends.length I5).ownBlock = some q ∨ (Value.slice pD bk.length E1).ownBlock = some q) -> False := fun q hq hx => by
   have h1 := HW.out q hx;have h2 := jU q (by rcases hx with h | h | h | h; exact .inr (.inl h); exact .inr (.inr (.inl h)); exact .inr (.inr (.inr (.inl h))); exact .inr (.inr (.inr (.inr (.inl h)))));rcases hq with hq | hq
   ·have := g8.out q hq; omega
   have := (D8.out q).1 hq; omega
  have T4 := qZ oJ;have C0 := qZ jU;have eE := q7.out.size;have y7 := qZ (gB.out.bytesG (fun q hq => ⟨by have := B1.out q hq; omega, fun e => T4.out q hq (.inr (.inr (.inr e)))⟩) q7.out S9.out kY.out);have t9 := Y0.out.grown q7.out (fun e => by have := (C0.out wr.heap.size (.inr (.inr (.inr (.inr (.inl e.symm)))))).2; omega);have J6 := y7.out.tgt.blk;have nG : ∀ W : World, W.cell? ⟨tb, 4, none⟩ = w6.cell? ⟨tb, 4, none⟩ -> W.heap[wr.heap.size]? = w6.heap[wr.heap.size]? -> W.cell? ⟨tb, 4, none⟩ = some (.slice E7 sk.ends.length I5) ∧ W.cell? ⟨wr.heap.size, 0, none⟩ = some (.int .i64 l5) ∧ W.cell? ⟨wr.heap.size, 1, none⟩ = some (.int .i64 l7) ∧ W.cell? ⟨wr.heap.size, 2, none⟩ = some (.int .i64 l6) ∧ W.cell? ⟨wr.heap.size, 3, none⟩ = some (.slice Av qd.length cv) ∧ True := fun W h1 h2 =>
   ⟨h1.trans (J6.cell 4), (World.cell?_of_block (w := w6) h2).trans (t9.cell 0), (World.cell?_of_block (w := w6) h2).trans (t9.cell 1), (World.cell?_of_block (w := w6) h2).trans (t9.cell 2), (World.cell?_of_block (w := w6) h2).trans (t9.cell 3), trivial⟩
  have t3 : w6.cell? ⟨tb, 3, none⟩ = some (.slice U6 n6.length aM) := J6.cell 3;have B8 := qZ nG;have fU := qZ t9;have B5 := qZ J6;have V0 := qZ ((HB.out.trans (eU.out.mono S2)).grown q7.out (by omega) (fun r hr => (C0.out r (.inr (.inr (.inr (.inr (.inl hr)))))).1));clear jU oJ t9 J6 nG Y0 gB;refine aD4 25 rfl (S := fun W => W.cell? ⟨tb, 4, none⟩ = some (.slice E7 sk.ends.length I5) ∧ W.cell? ⟨wr.heap.size, 0, none⟩ = some (.int .i64 l5) ∧ W.cell? ⟨wr.heap.size, 1, none⟩ = some (.int .i64 l7) ∧ W.cell? ⟨wr.heap.size, 2, none⟩ = some (.int .i64 l6) ∧ W.cell? ⟨wr.heap.size, 3, none⟩ = some (.slice Av qd.length cv) ∧ True) (B8.out _ rfl rfl) (fun hHeld => ?_);refine zU6 0 (k := ?_);refine zU6 1 (k := ?_);refine zU6 2 (k := ?_);refine zU6 3 (k := ?_);refine zU6 4 (k := ?_);refine zU6 6 (k := ?_);refine zU6 9 (k := ?_);refine zU6 10 (k := ?_);refine zU6 11 (k := ?_);refine zU6 12 (k := ?_);refine zU6 13 (k := ?_);refine zU6 15 (k := ?_);refine zU6 16 (k := ?_);simp only [zA, zB, zF, zG, zC, zD, zE];have t7 : Below w6.heap.size w6 ((w6.alloc (.cells #[.int .i64 l5, .int .i64 l7, .int .i64 l6, .slice Av qd.length cv] 65)).drew) := aA4 ((lS _ w6).alloc (lR _) _) 1;have T6 := qZ B5.out.lt;have o9 := qZ fU.out.lt;have jY := t7.block tb T6.out;have pA := t7.block wr.heap.size o9.out;have tF : (w6.alloc (.cells #[.int .i64 l5, .int .i64 l7, .int .i64 l6, .slice Av qd.length cv] 65)).cell? ⟨tb, 3, none⟩ = some (.slice U6 n6.length aM) := (World.cell?_of_block (w := w6) jY).trans t3;have aB := qZ (B8.out _ (World.cell?_of_block (w := w6) jY) pA);have kS := qZ t7;clear jY pA t7;apply dP0
  ·intro key
   refine cT8 5 7 (by simp) (by simp) (by kernel_rfl) (fun K hK => ?_) (fun K hK => ?_)
   ·simp only [zA, zB]
    go_simp;refine hK _ _ (B8.out _ rfl rfl) (fun hHeld => ?_);clear hK K;try simp only [zF, zG, zC, zD, zE]
    refine zW 7 (k := fun K hK => ?_);simp only [zA, zB];go_simp;refine hK _ _ aB.out (fun hHeld => ?_);clear hK K;try simp only [zF, zG, zC, zD, zE]
    exact key
   simp only [zA, zB];go_simp;refine hK _ _ aB.out (fun hHeld => ?_);clear hK K;try simp only [zF, zG, zC, zD, zE]
   refine zW 5 (k := fun K hK => ?_);simp only [zA, zB];go_simp;refine hK _ _ aB.out (fun hHeld => ?_);clear hK K;try simp only [zF, zG, zC, zD, zE]
   exact key
  clear t3 tF;obtain ⟨w7, K3⟩ : ∃ W, W = (w6.alloc (.cells #[.int .i64 l5, .int .i64 l7, .int .i64 l6, .slice Av qd.length cv] 65)).drew := ⟨_, rfl⟩
  have hHeld := aB.out;rw [<- K3] at hHeld ⊢;have p7 : Hid (Below w6.heap.size w6 w7) := qZ (by rw [K3]; exact kS.out);have nK : ∀ j u, [Value.int .i64 l5, Value.int .i64 l7, Value.int .i64 l6, Value.slice Av qd.length cv][j]? = some u -> w7.cell? ((⟨w6.heap.size, 0, none⟩ : Addr).add j) = some u := by
   rw [K3];obtain ⟨ad, e1, _, h2⟩ := aG4 w6 65 [Value.int .i64 l5, Value.int .i64 l7, Value.int .i64 l6, Value.slice Av qd.length cv] (by simp);injection e1 with e1
   subst e1;exact h2
  have K9 := qZ nK;have U5 := p7.out.size;have lP := qZ (World.ownsRow.kept y7.out.tgt.ents (aA5 p7.out none) (by generalize (Value.slice U6 n6.length aM).ownBlock = o; cases o <;> simp));have fX := qZ (p7.out.block tb T6.out);have fV := qZ (p7.out.block wr.heap.size o9.out);clear K3 nK kS aB;refine zW 8 (k := fun K hK => ?_);simp only [zA, zB];rw [if_pos (by rfl)];refine aN3 (.tmp 199) (.tmp 201) 40 rfl w0.heap.size 65 (.agg #[.int .i64 0, .int .i64 0, .int .i64 0, .slice none 0 0]) 4 48 Tryz.underlying40 aI8 rfl (by decide) _ n6.length (aA7 n6) rfl lP.out ⟨w6.heap.size, 0, none⟩ 1 1 _ rfl rfl K9.out (by simp [Value.oneCell']) (by unfold maxLen; omega) (by omega) (by omega) ?_;intro v8 w8 D5 T9 nO;obtain ⟨A8, c8, sY, _⟩ := aC2 D5;subst sY;have oS := T9.size;have pB : w8.heap[tb]? = w7.heap[tb]? := T9.block tb (by have := T6.out; omega) (fun e => aB2 y7.out.tgt.ents y7.out.tgt.blk (by decide) e.symm);have oZ : w8.heap[wr.heap.size]? = w7.heap[wr.heap.size]? := T9.block _ (by have := o9.out; omega) (fun e => by have := (C0.out wr.heap.size (.inr (.inr (.inl e.symm)))).2; omega);have O6 := qZ (pB.trans fX.out);have Y1 := qZ (oZ.trans fV.out);have S4 := World.ownsRow.kept y7.out.tgt.ends (aA5 p7.out none) (by generalize (Value.slice E7 sk.ends.length I5).ownBlock = o; cases o <;> simp);have aJ := qZ (World.ownsRow.kept S4 T9 (jrow_type_ne S4 lP.out (by decide)));have pV := qZ D5;have fO := qZ T9;have kZ := qZ nO;have oU : sk.ends.length <= 102000001 := by have := y7.out.num.2.1; omega
  have L4 : Hid (Calls Tryz.prog 56 #[.pointer (some ⟨tb, 0, none⟩)] w8 fun e w' => e = .returned (.int .i64 sk.long) ∧ Below w8.heap.size w8 w') := qZ (cO4 ((World.cell?_of_block O6.out).trans (B5.out.cell 4)) (by have h := aJ.out; unfold Own; rw [lU] at h ⊢; exact h) (fun e => by have := y7.out.num.2.1; rw [e] at this; simp at this) (by omega));clear D5 T9 nO pB oZ S4 K9;refine hK _ _ (B8.out _ (World.cell?_of_block O6.out) Y1.out) (fun hHeld => ?_);clear hK K;try simp only [zF, zG, zC, zD, zE]
  refine zW 14 (k := fun K hK => ?_);simp only [zA, zB];go_simp;refine L4.out.mono ?_;rintro e w9 ⟨rfl, M3⟩;have jL := M3.size;have O7 := qZ ((M3.block tb (by have := T6.out; omega)).trans O6.out);have O5 := qZ ((M3.block wr.heap.size (by have := o9.out; omega)).trans Y1.out);have V1 := qZ M3;clear M3 L4;refine hK _ _ (B8.out _ (World.cell?_of_block O7.out) O5.out) (fun hHeld => ?_);clear hK K;try simp only [zF, zG, zC, zD, zE]
  have sP : 0 <= sk.long := (y7.out.num.1.ends _ (aV9 (fun e => by have := y7.out.num.2.1; rw [e] at this; simp at this))).1;obtain ⟨n, hn⟩ : ∃ n, n = sk.long + (pp.length : Int) := ⟨_, rfl⟩
  have uF : IntKind.i64.wrap (sk.long + (pp.length : Int)) = n := by rw [hn]; exact mH _ (by omega)
  have dY : 0 <= n ∧ n <= 4611686018427387904 := by omega
  have pU := qZ hn;clear hn;refine zW 17 (k := fun K hK => ?_);simp only [zA, zB];go_simp;refine hK _ _ (B8.out _ (World.cell?_of_block O7.out) O5.out) (fun hHeld => ?_);clear hK K;try simp only [zF, zG, zC, zD, zE]
  refine zW 18 (k := fun K hK => ?_);simp only [zA, zB];go_simp;obtain ⟨x7, K0⟩ : ∃ W, W = w9.alloc (.cells #[.int .i64 n] 3) := ⟨_, rfl⟩
  have d8 : Below w9.heap.size w9 x7 := by rw [K0]; exact (lS _ w9).alloc (lR _) _
  have cE := d8.size;have L5 : Hid (Rd x7 (w9.heap.size + 1) (some ⟨w9.heap.size, 0, none⟩) [.int .i64 n]) := qZ (by rw [K0]; exact aG4 w9 3 [.int .i64 n]);have L3 := qZ ((d8.block tb (by have := T6.out; omega)).trans O7.out);have L1 := qZ ((d8.block wr.heap.size (by have := o9.out; omega)).trans O5.out);have a9 := qZ (V1.out.trans (d8.mono (by omega)));have aI : Hid (Own x7 w0.heap.size 3 (.slice E7 sk.ends.length I5) (sk.ends.map (Value.int .i64))) := qZ (Own.kept aJ.out (aA5 a9.out none) (by generalize (Value.slice E7 sk.ends.length I5).ownBlock = o; cases o <;> simp));rw [<- K0];clear K0 d8;refine hK _ _ (B8.out _ (World.cell?_of_block L3.out) L1.out) (fun hHeld => ?_);clear hK K;try simp only [zF, zG, zC, zD, zE]
  refine zW 19 (k := fun K hK => ?_);simp only [zA, zB];rw [if_pos (by rfl)];refine aM2 (.tmp 206) (.tmp 212) 41 rfl w0.heap.size 3 (.int .i64 0) 8 Tryz.underlying41 bH5 rfl _ (sk.ends.map (Value.int .i64)) rfl aI.out (w9.heap.size + 1) (some ⟨w9.heap.size, 0, none⟩) 1 1 [.int .i64 n] rfl rfl L5.out (by simp [Value.oneCell']) (by rw [lU]; unfold maxLen; omega) (by rw [lU]; omega) (by omega) ?_;intro uM n9 p5 g7 bI;obtain ⟨kI, mS, cN, _⟩ := Own.shape p5;rw [lT, lU] at cN;subst cN;have cF := g7.size;have cT : n9.heap[tb]? = x7.heap[tb]? := g7.block tb (by have := T6.out; omega) (fun e => aB2 y7.out.tgt.ends y7.out.tgt.blk (by decide) e.symm);have cS : n9.heap[wr.heap.size]? = x7.heap[wr.heap.size]? := g7.block _ (by have := o9.out; omega) (fun e => by have := (C0.out wr.heap.size (.inr (.inr (.inr (.inl e.symm))))).2; omega);have C5 : Blk n9 tb 104 _ := (cT.trans L3.out).trans B5.out;have g3 : n9.cell? ⟨tb, 3, none⟩ = some (.slice U6 n6.length aM) := C5.cell 3;have z3 : n9.frozen? ⟨tb, 3, none⟩ = false := C5.frozen 3;have L2 := qZ (cS.trans L1.out);have gN := qZ C5;have gH := qZ p5;have O2 := qZ g7;have X0 := qZ bI;have P4 := qZ (B8.out n9 ((C5.cell 4).trans (B5.out.cell 4).symm) L2.out);clear p5 g7 bI cT cS C5 L5;refine hK _ _ P4.out (fun hHeld => ?_);clear hK K;try simp only [zF, zG, zC, zD, zE]
  refine zW 20 (k := fun K hK => ?_);simp only [zA, zB];go_simp;refine hK _ _ P4.out (fun hHeld => ?_);clear hK K;try simp only [zF, zG, zC, zD, zE]
  refine zW 21 (k := fun K hK => ?_);simp only [zA, zB];go_simp;refine hK _ _ P4.out (fun hHeld => ?_);clear hK K;try simp only [zF, zG, zC, zD, zE]
  refine zW 22 (k := fun K hK => ?_);simp only [zA, zB];go_simp;have Q0 := gN.out.set_ 3 (.slice A8 (n6.length + 1) c8);have bM := aA0 n9 tb 3 (.slice A8 (n6.length + 1) c8);have g4 : (n9.setCell ⟨tb, 3, none⟩ (.slice A8 (n6.length + 1) c8)).cell? ⟨tb, 4, none⟩ = some (.slice E7 sk.ends.length I5) := Q0.cell 4;have z4 : (n9.setCell ⟨tb, 3, none⟩ (.slice A8 (n6.length + 1) c8)).frozen? ⟨tb, 4, none⟩ = false := Q0.frozen 4;have sT := (C0.out tb (.inr (.inl rfl))).2;have P5 := qZ (B8.out _ (g4.trans (B5.out.cell 4).symm) ((bM.block wr.heap.size (by have := o9.out; omega) (fun e => by injection e with e; omega)).trans L2.out));clear Q0 bM;refine hK _ _ P5.out (fun hHeld => ?_);clear hK K;try simp only [zF, zG, zC, zD, zE]
  refine zW 23 (k := fun K hK => ?_);simp only [zA, zB];go_simp;refine hK _ _ P5.out (fun hHeld => ?_);clear hK K;try simp only [zF, zG, zC, zD, zE]
  refine zW 24 (k := fun K hK => ?_);simp only [zA, zB];go_simp;refine hK _ _ P5.out (fun hHeld => ?_);clear hK K;try simp only [zF, zG, zC, zD, zE]
  refine aH0 (t := 25) (by simp) (by kernel_rfl) (by kernel_rfl) (fun K hK => ?_);simp only [zA, zB];go_simp;refine hK _ _ ?_;clear hK K hHeld g3 z3 g4 z4;have W7 : Hid (bB7 w6 (fun x => F x ∨ D x) (.slice Av qd.length cv) qd) := qZ ((fF.out.keep (by omega) (fun x hx => by
   have h1 := (D8.out x).1 hx;exact (q7.out.block x (by omega) (fun e => T4.out x (.inr hx) (.inr (.inr (.inr e.symm))))).trans ((eU.out.block x (by omega)).trans (W5.out.2 x hx)))).mono (fun x hx => .inr hx))
  have Y8 := qZ (y7.out.entG (q := ⟨.slice Av qd.length cv, ⟨l5, l7, l6, qd⟩⟩) (n := n) (fun x hx => ⟨by have := B1.out x hx; omega, fun e => T4.out x hx (.inl e), fun e => T4.out x hx (.inr (.inl e)), fun e => T4.out x hx (.inr (.inr (.inl e)))⟩) W7.out p7.out fO.out pV.out kZ.out a9.out O2.out gH.out X0.out dY gJ.out.1 (by omega) jE);have nT : n9.grownBy ((n9.setCell ⟨tb, 3, none⟩ (.slice A8 (n6.length + 1) c8)).setCell ⟨tb, 4, none⟩ (.slice kI (sk.ends.length + 1) mS)) (some tb) := aB8 (aA0 n9 tb 3 _) (aA0 _ tb 4 _) (.inl rfl);have m0 := qZ nT;clear nT;generalize ((n9.setCell ⟨tb, 3, none⟩ (.slice A8 (n6.length + 1) c8)).setCell ⟨tb, 4, none⟩ (.slice kI (sk.ends.length + 1) mS)) = n7 at Y8 m0 ⊢
  go_wp2_with fail
  go_roundw
  case rel =>
   have R8 := m0.out.size;have jK := V0.out.size;refine ⟨k + 1, n6 ++ [⟨.slice Av qd.length cv, ⟨l5, l7, l6, qd⟩⟩], _, _, _, by omega, by go_num, rfl, qZ ?_, qZ ⟨by omega, fun x hx => ?_⟩, qZ (by rw [aD.out, eW.out, <- pU.out]; exact Y8.out), qZ (fun x hx => ?_)⟩
   ·exact ((((V0.out.trans (p7.out.mono jK)).grown fO.out (by omega) (fun r hr => (C0.out r (.inr (.inr (.inl hr)))).1)).trans (a9.out.mono (by omega))).grown O2.out (by omega) (fun r hr => (C0.out r (.inr (.inr (.inr (.inl hr))))).1)).grown m0.out (by omega) (fun r hr => by injection hr with hr; have := (C0.out tb (.inr (.inl rfl))).1; omega)
   ·have h1 := (D8.out x).1 hx
    have hn := fun h => T4.out x (.inr hx) h
    exact (m0.out.block x (by omega) (fun e => hn (.inl (by injection e)))).trans ((O2.out.block x (by omega) (fun e => hn (.inr (.inr (.inl e.symm))))).trans ((a9.out.block x (by omega)).trans ((fO.out.block x (by omega) (fun e => hn (.inr (.inl e.symm)))).trans ((p7.out.block x (by omega)).trans ((q7.out.block x (by omega) (fun e => hn (.inr (.inr (.inr e.symm))))).trans ((eU.out.block x (by omega)).trans (W5.out.2 x hx)))))))
   rcases hx with hx | hx | hx | hx
   ·exact HW.out x (.inl hx)
   ·rcases kZ.out with e | ⟨y, e, hy⟩
    ·exact HW.out x (.inr (.inl (e ▸ hx)))
    rw [hx] at e;injection e with e
    exact .inr (by omega)
   ·rcases X0.out with e | ⟨y, e, hy⟩
    ·exact HW.out x (.inr (.inr (.inl (e ▸ hx))))
    rw [hx] at e;injection e with e
    exact .inr (by omega)
   rcases kY.out x hx with h1 | h1
   ·exact HW.out x (.inr (.inr (.inr h1)))
   exact .inr (by omega)
  case measure => simp [intOf]; omega
 obtain rfl : k = rs.length := by omega
 have cM : l.take rs.length = l := List.take_of_length_le (by omega);rw [cM] at HM;obtain ⟨s1, eC⟩ : ∃ s, s = aA6 s0 l := ⟨_, rfl⟩
 obtain ⟨B, hB⟩ : ∃ b, b = bh ++ (l.map aC9).flatten := ⟨_, rfl⟩
 have tQ : B.length <= 1001048600 := by
  have := B2.out rs.length;rw [cM] at this;rw [hB, lT];omega
 rw [<- eC, <- hB] at HM;have I2 : Hid (aI9 j d l = if 999999999 < s1.k then (1, j, d) else if d.free + fr < (B.length : Int) then (52, j, d) else ((aG1 (al ++ [.app (aA1 s1.k) B, .sync (aA1 s1.k)]) d).1, if (aG1 (al ++ [.app (aA1 s1.k) B, .sync (aA1 s1.k)]) d).1 = 0 then { j with segs := E6 ++ [s1] } else { j with bad := (aG1 (al ++ [.app (aA1 s1.k) B, .sync (aA1 s1.k)]) d).1 }, (aG1 (al ++ [.app (aA1 s1.k) B, .sync (aA1 s1.k)]) d).2)) := qZ (mF.out.trans (I1.out.trans (by unfold aX6; rw [<- eC, <- hB])));obtain ⟨Ab, E1, jS, tD, uH, _⟩ := HM.out.bytes.shape;subst jS;have t0 : wr.cell? ⟨tb, 0, none⟩ = some (.int .i64 s1.k) := HM.out.tgt.blk.cell 0;have cH := HM.out.num.2.2.2.2;have mB := qZ (HM.out.segsAt (fun q hq => ⟨B1.out q hq, fun e => by
  have h1 := (HM.out.row.lt q e).1;rcases hq with hq | hq
  ·have := g8.out q hq; omega
  have := (gA.out q (.inl e)).2; have := (D8.out q).1 hq; omega⟩))
 have fH := qZ (HM.out.dvFar (fun q hq e => by
  have h1 := gA.out q (.inr (.inr (.inr (.inr (.inr e)))));rcases hq with hq | hq
  ·have := g8.out q hq; omega
  have := (D8.out q).1 hq; omega))
 have X3 : Hid (∀ x, _ -> F x ∨ w.heap.size <= x) := qZ (fun x hx => (HM.out.from_ (F0 := F) (fun q hq => by
  rcases hq with hq | hq
  ·exact .inl hq
  have := (D8.out q).1 hq; exact .inr (by omega)) x hx).imp id (fun h => by omega))
 clear eC hB cM I1;by_cases hmax : 999999999 < s1.k
 ·have pZ := qZ (show aI9 j d l = (1, j, d) by rw [I2.out, if_pos hmax])
  go_wp2_with fail
  go_ret
  exact HH.out.same V7.out pZ.out
 obtain ⟨_, _, sA, sB⟩ := HH.out.disk.num;have lB := qZ (HH.out.below V7.out);have J3 := bH2 lB.out.disk (by rw [HH.out.fs]; have := gI.out.sz; omega);rw [HH.out.fs] at J3;obtain ⟨f2, iO⟩ : ∃ x, x = d.room - aB7 d.fs := ⟨_, rfl⟩
 rw [<- iO] at J3;have rQ := fL.out;have rO := fJ.out;have sS := aE5 d.fs;have jR := gI.out.sz;have tA : IntKind.i64.wrap (f2 + fr) = f2 + fr := mH _ (by omega);have lA := qZ (show d.free = f2 from iO.symm);have X4 := qZ J3;have b0 : wr.cell? ⟨w.heap.size, 0, none⟩ = some (.pointer (some ⟨gj, 0, none⟩)) := (C1.out.below HB.out D6).cell 0;have j3 : wr.cell? ⟨gj, 3, none⟩ = some (.pointer (some ⟨g, 0, none⟩)) := (B4.out.below HB.out (by omega)).cell 3;clear J3 iO jR sA sB lB;go_wp2_with fail
 refine X4.out.mono ?_;rintro e w8 ⟨rfl, E2⟩;have oS := E2.size;have K8 := qZ (HB.out.trans (E2.mono S2));have N7 := qZ (g9.out.trans (K8.out.mono j6));have E9 := qZ E2;clear E2 X4 t0 b0 j3;by_cases hroom : f2 + fr < (B.length : Int)
 ·have Z3 := qZ (show aI9 j d l = (52, j, d) by rw [I2.out, if_neg (by omega), if_pos (by rw [lA.out]; exact hroom)])
  go_wp2_with fail
  go_ret
  exact HH.out.same N7.out Z3.out
 have aE : Hid (aI9 j d l = ((aG1 (al ++ [.app (aA1 s1.k) B, .sync (aA1 s1.k)]) d).1, if (aG1 (al ++ [.app (aA1 s1.k) B, .sync (aA1 s1.k)]) d).1 = 0 then { j with segs := E6 ++ [s1] } else { j with bad := (aG1 (al ++ [.app (aA1 s1.k) B, .sync (aA1 s1.k)]) d).1 }, (aG1 (al ++ [.app (aA1 s1.k) B, .sync (aA1 s1.k)]) d).2)) := qZ (by rw [I2.out, if_neg (by omega), if_neg (by rw [lA.out]; omega)]);obtain ⟨pE, qK, iI, _⟩ := HM.out.acts.own.shape;subst iI;have aK := qZ HM.out.acts.len;have tN := qZ HM.out.wr;have aL := qZ HM.out.wrlt;have cM := (aL.out tb (.inr (.inl rfl))).2;have q6 := qZ (HM.out.acts.below E9.out);have fP := qZ (HM.out.bytes.below E9.out (lR _));have mK := qZ (HM.out.tgt.blk.below E9.out cM);have cB := aS0 HM.out.acts.own HM.out.bytes (by decide);have gG := qZ cB;have L6 : Hid (∀ W, Below w0.heap.size w0 W -> W.cell? ⟨w.heap.size, 0, none⟩ = some (.pointer (some ⟨gj, 0, none⟩)) ∧ True ∧ True ∧ True) := qZ (fun W h => ⟨(C1.out.below h D6).cell 0, trivial, trivial, trivial⟩);have R7 := aJ8 s1.k (by omega);have eY : Hid (Below w8.heap.size w8 w8.drew) := qZ (lS _ w8).drew;have P1 := qZ (aN8 tb 0 s1.k (by omega) w8.drew ((mK.out.below eY.out (by omega)).cell 0) (HE.out w8.drew ((N7.out.trans (eY.out.mono (by omega))).mono T8)));obtain ⟨nm, D3⟩ : ∃ x, x = aA1 s1.k := ⟨_, rfl⟩
 have dA := qZ D3;rw [<- D3] at P1 R7;clear D3 I2 mF cB;go_upto_region 43 with fail
 refine wp_region_held_drew (S := fun W => W.cell? ⟨w.heap.size, 0, none⟩ = some (.pointer (some ⟨gj, 0, none⟩)) ∧ True ∧ True ∧ True) (by kernel_rfl) (L6.out _ K8.out.drew) (fun hHeld => ?_);clear hroom hmax;refine zT 0 (k := ?_);refine zT 1 (k := ?_);refine zT 2 (k := ?_);refine zT 3 (k := ?_);refine zT 5 (k := ?_);refine zT 7 (k := ?_);refine zT 8 (k := ?_);simp only [zA, zB, zF, zG, zC, zD, zE];refine zV 4 (k := fun K hK => ?_);simp only [zA, zB];go_simp;refine P1.out.mono ?_;rintro e w9 ⟨rfl, M3⟩;have V1 : Hid (Below w8.heap.size w8 w9) := qZ (eY.out.trans (M3.mono (lR _)));have jL := V1.out.size;clear M3 P1;refine hK.out _ _ (L6.out _ (K8.out.trans (V1.out.mono (by omega)))) (fun hHeld => ?_);clear hK K;try simp only [zF, zG, zC, zD, zE]
 refine zV 6 (k := fun K hK => ?_);simp only [zA, zB];go_simp;refine (show Calls _ _ _ w9 _ from cE5 (gj := gj) (g := g) nm (by omega) B Ab E1 tD (by omega) w9).mono ?_;rintro e x7 ⟨vP, rfl, d8, ⟨FQ, j9, rfl⟩, _, M0⟩;have cE := d8.size;have a9 := qZ (V1.out.trans (d8.mono jL));have lD := qZ (M0 (fun x => G1 x ∨ (Value.slice Ab B.length E1).ownBlock = some x ∨ (w8.heap.size <= x ∧ x < x7.heap.size)) (fun x h1 h2 => .inr (.inr ⟨by omega, h2⟩)) ((fP.out.below a9.out (lR _)).rdO.mono (fun x hx => .inr (.inl hx))));have P2 := qZ (aN8 tb 0 s1.k (by omega) x7 ((mK.out.below a9.out (by omega)).cell 0) (HE.out x7 ((N7.out.trans (a9.out.mono (by omega))).mono T8)));rw [<- dA.out] at P2;clear d8 M0;refine hK.out _ _ (L6.out _ (K8.out.trans (a9.out.mono (by omega)))) (fun hHeld => ?_);clear hK K;try simp only [zF, zG, zC, zD, zE]
 refine zV 9 (k := fun K hK => ?_);simp only [zA, zB];go_simp;refine P2.out.mono ?_;rintro e n9 ⟨rfl, I8⟩;have cF := I8.size;have U8 := qZ (a9.out.trans (I8.mono (by omega)));have y8 := qZ I8;clear I8 P2;refine hK.out _ _ (L6.out _ (K8.out.trans (U8.out.mono (by omega)))) (fun hHeld => ?_);clear hK K;try simp only [zF, zG, zC, zD, zE]
 refine zV 10 (k := fun K hK => ?_);simp only [zA, zB];go_simp;refine (show Calls _ _ _ n9 _ from bH9 (gj := gj) (g := g) nm (by omega) n9).mono ?_;rintro e o7 ⟨vS, rfl, I9, ⟨FS, l4, rfl⟩, _, M1⟩;have sH := I9.size;have U9 := qZ (U8.out.trans (I9.mono (by omega)));have o8 := qZ (y8.out.trans (I9.mono cF));have lE := qZ (M1 (fun x => G1 x ∨ (Value.slice Ab B.length E1).ownBlock = some x ∨ (w8.heap.size <= x ∧ x < o7.heap.size)) (fun x h1 h2 => .inr (.inr ⟨by omega, h2⟩)));have dK := q6.out.lt;have J0 := fP.out.row.lt;have X6 := qZ ((lD.out.keep o8.out.size (fun x hx => o8.out.block x (by
  rcases hx with hx | hx | hx
  ·have := dK x hx; omega
  ·have := J0 x hx; omega
  exact hx.2))).mono (E' := fun x => G1 x ∨ (Value.slice Ab B.length E1).ownBlock = some x ∨ (w8.heap.size <= x ∧ x < o7.heap.size)) (fun x hx => hx.imp id (fun h => h.imp id (fun h => ⟨h.1, by omega⟩))))
 clear I9 M1 lD y8 o8;refine hK.out _ _ (L6.out _ (K8.out.trans (U9.out.mono (by omega)))) (fun hHeld => ?_);clear hK K;try simp only [zF, zG, zC, zD, zE]
 refine zV 11 (k := fun K hK => ?_);simp only [zA, zB];go_simp;obtain ⟨wF, eI⟩ : ∃ W, W = o7.alloc (.cells #[.func (.func FQ) #[] j9, .func (.func FS) #[] l4] 98) := ⟨_, rfl⟩
 have J1 : Below o7.heap.size o7 wF := by rw [eI]; exact (lS _ o7).alloc (lR _) _
 have sL := J1.size;have T5 : Hid (Rd wF (o7.heap.size + 1) (some ⟨o7.heap.size, 0, none⟩) [.func (.func FQ) #[] j9, .func (.func FS) #[] l4]) := qZ (by rw [eI]; exact aG4 o7 98 [.func (.func FQ) #[] j9, .func (.func FS) #[] l4]);rw [<- eI];have D7 := qZ (U9.out.trans (J1.mono (by omega)));have y9 := qZ J1;have N3 := qZ (q6.out.below D7.out);clear eI J1;refine hK.out _ _ (L6.out _ (K8.out.trans (D7.out.mono (by omega)))) (fun hHeld => ?_);clear hK K;try simp only [zF, zG, zC, zD, zE]
 refine zV 12 (k := fun K hK => ?_);simp only [zA, zB];rw [if_pos (by rfl)];refine aM2 (.tmp 237) (.tmp 247) 110 rfl w0.heap.size 98 .nilFunc 8 Tryz.underlying110 aN2 rfl _ n8 rfl N3.out.own (o7.heap.size + 1) (some ⟨o7.heap.size, 0, none⟩) 2 2 [.func (.func FQ) #[] j9, .func (.func FS) #[] l4] rfl rfl T5.out (by simp [Value.oneCell']) (by unfold maxLen; omega) (by omega) (by omega) ?_;intro tG K6 i1 C9 bJ;have sJ := C9.size;have nM := q6.out.own.lt;have m6 : aJ2 K6 (fun x => G1 x ∨ (Value.slice Ab B.length E1).ownBlock = some x ∨ (w8.heap.size <= x ∧ x < o7.heap.size)) w0.heap.size gj g tG (n8 ++ [.func (.func FQ) #[] j9, .func (.func FS) #[] l4]) (al ++ [.app nm B, .sync nm]) := by
  refine aJ2.pushes N3.out rfl (fun i h1 h2 => ?_) (by simp [Value.oneCell']) (fun x hx => .inl hx) (fun x hx => ?_) (fun r hr hx => ?_) C9 bJ i1
  ·have hi : i < 2 := h1
   have iB : ∀ x, (G1 x ∨ (Value.slice Ab B.length E1).ownBlock = some x ∨ (w8.heap.size <= x ∧ x < o7.heap.size)) -> x < o7.heap.size := fun x hx => by
    rcases hx with hx | hx | hx
    ·have := dK x hx; omega
    ·have := J0 x hx; omega
    exact hx.2
   rcases (by omega : i = 0 ∨ i = 1) with rfl | rfl
   ·exact X6.out.keep y9.out.size (fun x hx => y9.out.block x (iB x hx))
   exact lE.out.keep y9.out.size (fun x hx => y9.out.block x (iB x hx))
  ·rcases hx with hx | hx | hx
   ·have := dK x hx; omega
   ·have := J0 x hx; omega
   omega
  rcases hx with hx | hx | hx
  ·exact q6.out.apart r hr hx
  ·rcases gG.out with h1 | h1
   ·rw [h1] at hr; cases hr
   exact h1 (hr.trans hx.symm)
  have := (nM r hr).2; omega
 have E8 := qZ (K8.out.trans ((D7.out.mono (by omega)).trans ((lS _ wF).grown C9 (by omega) (fun r hr => (nM r hr).1))));obtain ⟨kH, cP⟩ : ∃ v : List Value, v = n8 ++ [.func (.func FQ) #[] j9, .func (.func FS) #[] l4] := ⟨_, rfl⟩
 rw [<- cP] at m6 i1;clear cP;obtain ⟨eP, gQ, iK, _, _, _⟩ := i1.shape;subst iK;have pF := qZ m6;have j8 := qZ (g9.out.trans (E8.out.mono j6));have mX : ∀ x, ((G1 x ∨ (Value.slice Ab B.length E1).ownBlock = some x ∨ (w8.heap.size <= x ∧ x < o7.heap.size)) ∨ (Value.slice eP kH.length gQ).ownBlock = some x) -> (F x ∨ w.heap.size <= x) ∧ x < K6.heap.size := fun x hx => by
  rcases hx with (hx | hx | hx) | hx
  ·have := dK x hx
   exact ⟨G7.out x hx, by omega⟩
  ·have := J0 x hx
   have := fP.out.row.base x hx;exact ⟨.inr (by omega), by omega⟩
  ·exact ⟨.inr (by omega), by omega⟩
  have := i1.lt x hx;exact ⟨.inr (by omega), this.2⟩
 have pQ := qZ (HH.out.below j8.out);obtain ⟨dE, C7⟩ : ∃ a, a = al ++ [aC3.app nm B, aC3.sync nm] := ⟨_, rfl⟩
 have aZ : dE.length <= 1000010 := by
  rw [C7, lT, <- aK.out];simp
  omega
 have tS : aF4 dE <= 1001048601 := by
  rw [C7, aL0, V9.out];simp [aF4, aC3.cost]
  omega
 rw [<- C7] at m6;have aP := aR7 (E := fun x => (G1 x ∨ (Value.slice Ab B.length E1).ownBlock = some x ∨ (w8.heap.size <= x ∧ x < o7.heap.size)) ∨ (Value.slice eP kH.length gQ).ownBlock = some x) pQ.out.disk (B4.out.below E8.out (by omega)) HH.out.lo eP kH dE gQ ((bU3 m6.own).mono (fun x hx => .inr hx)) m6.len (fun k h h' => (m6.acts k h h').mono (fun x hx => .inl hx)) (fun x hx => by
  have h1 := mX x hx;refine ⟨h1.2, ?_⟩;rcases h1.1 with h2 | h2
  ·exact ⟨(HH.out.apart x h2).2.2.2, (HH.out.apart x h2).2.2.1⟩
  exact ⟨fun hf => by have := (HH.out.disk.lt x hf).2; omega, by omega⟩) (fun w' hb' => HE.out w' ((j8.out.mono T8).trans hb')) (L := L) (by rw [DkD.eta' d HH.out.fs]; exact gI.out) (by omega) (by omega)
 rw [DkD.eta' d HH.out.fs, <- m6.len] at aP;obtain ⟨rc, d3, hR⟩ : ∃ rc d3, aG1 dE d = (rc, d3) := ⟨_, _, rfl⟩
 rw [hR] at aP;have dB : Hid (aI9 j d l = (rc, if rc = 0 then { j with segs := E6 ++ [s1] } else { j with bad := rc }, d3)) := qZ (by rw [aE.out, <- dA.out, <- C7, hR]);dsimp only at aP
 have kL := qZ aP;have aC : Hid (∃ F5 : Nat -> Prop, aH7 K6 F5 w0.heap.size (.slice (some ⟨ab, ao, none⟩) (mp + 1) c5) (m5 ++ [⟨tb, 0, none⟩]) (E6 ++ [s1]) ∧ ∀ x, F5 x ∨ (Value.slice (some ⟨ab, ao, none⟩) (mp + 1) c5).ownBlock = some x -> F x ∨ w.heap.size <= x) := qZ (by
  refine ⟨_, mB.out.keep' (by omega) (fun x hx => ?_), fun x hx => ?_⟩
  ·have oY : x < wr.heap.size ∧ (Value.slice pE n8.length qK).ownBlock ≠ some x := by
    refine ⟨?_, fun e => ?_⟩
    ·rcases hx with hx | hx
     ·exact mB.out.lt x hx
     exact (aL.out x (.inl hx)).2
    exact fH.out x hx e
   exact (C9.block x (by omega) (fun e => oY.2 e.symm)).trans ((D7.out.block x (by omega)).trans (E9.out.block x oY.1))
  exact X3.out x hx)
 clear m6 aP hR C7 i1 C9 bJ mX N3 X6 lE T5 D7 y9 aE;refine hK.out _ _ (L6.out _ E8.out) (fun hHeld => ?_);clear hK K;try simp only [zF, zG, zC, zD, zE]
 refine zV 13 (k := fun K hK => ?_);simp only [zA, zB];go_simp;refine kL.out.mono ?_;rintro e n7 ⟨rfl, aN, aR, aW, aT, C4, Q7⟩;have R8 := C4.size;have mZ : Fr (fun k => aA8 g m es k ∨ k = gj) w n7 := (Fr.of_below _ j8.out).trans C4 (fun j hj => .inl hj);have X2 := qZ mZ;have G6 := qZ aR;have aA := qZ aW;have q8 := qZ aT;have O1 := qZ (show ∀ k, aA8 g m aN k -> aA8 g m es k ∨ K6.heap.size <= k from Q7);obtain ⟨F5, I6, mY⟩ := aC.out;have B9 : Hid (∀ x, F5 x ∨ (Value.slice (some ⟨ab, ao, none⟩) (mp + 1) c5).ownBlock = some x -> n7.heap[x]? = K6.heap[x]? ∧ (F x ∨ w.heap.size <= x) ∧ x < K6.heap.size ∧ x ≠ gj ∧ ¬ aA8 g m aN x) := qZ (fun x hx => by
  have h1 : (F x ∨ w.heap.size <= x) ∧ x < K6.heap.size := by
   refine ⟨mY x hx, ?_⟩;rcases hx with hx | hx
   ·exact I6.lt x hx
   exact (I6.own.lt x hx).2
  have h2 : x ≠ gj ∧ ¬ aA8 g m es x := by
   rcases h1.1 with h3 | h3
   ·exact (HH.out.apart x h3).2.2
   exact ⟨by omega, fun hf => by have := (HH.out.disk.lt x hf).2; omega⟩
  refine ⟨C4.block x h1.2 (by rintro (h3 | h3); exact h2.2 h3; exact h2.1 h3), h1.1, h1.2, h2.1, fun hf => ?_⟩;rcases Q7 x hf with h3 | h3
  ·exact h2.2 h3
  omega)
 have P6 := qZ (I6.keep' R8 (fun x hx => (B9.out x hx).1));have nJ : n7.heap[w.heap.size]? = K6.heap[w.heap.size]? := C4.block _ (by omega) (by rintro (h3 | h3); (have := (HH.out.disk.lt _ h3).2; omega); omega);have mR : n7.cell? ⟨w.heap.size, 0, none⟩ = some (.pointer (some ⟨gj, 0, none⟩)) := (World.cell?_of_block nJ).trans (L6.out K6 E8.out).1;have j2 : n7.cell? ⟨gj, 2, none⟩ = some (.slice A nl c) := q8.out.cell 2;have j4 : n7.cell? ⟨gj, 4, none⟩ = some (.int .i64 rc) := q8.out.cell 4;have z2 : n7.frozen? ⟨gj, 2, none⟩ = false := q8.out.frozen _;have cA : mp + 1 = (E6 ++ [s1]).length := by
  have h1 := P6.out.own.shape;obtain ⟨_, _, e1, _⟩ := h1;injection e1 with _ e1 _
  rw [e1, lU, P6.out.len]
 clear aR aW aT C4 Q7 mZ kL I6 mY nJ;refine hK.out _ _ ⟨mR, trivial, trivial, trivial⟩ (fun hHeld => ?_);clear hK K;try simp only [zF, zG, zC, zD, zE]
 refine zT 14 (k := ?_);simp only [zA, zB, zF, zG, zC, zD, zE];refine wpAnyH_done (by kernel_rfl) ?_ _;clear hHeld;have gE := qZ cA;clear cA;by_cases hz : rc = 0
 ·subst hz
  have Z3 := qZ (dB.out.trans (by rw [if_pos rfl] : _ = ((0 : Int), (⟨j.term, j.vote, E6 ++ [s1], j.bad⟩ : JnP), d3)));clear dB;have p8 := aA0 n7 gj 2 (.slice (some ⟨ab, ao, none⟩) (mp + 1) c5);have gT := q8.out.set_ 2 (.slice (some ⟨ab, ao, none⟩) (mp + 1) c5);have tO : (n7.setCell ⟨gj, 2, none⟩ (.slice (some ⟨ab, ao, none⟩) (mp + 1) c5)).cell? ⟨w.heap.size, 0, none⟩ = some (.pointer (some ⟨gj, 0, none⟩)) := (World.cell?_of_block (p8.block w.heap.size (by omega) (fun e => by injection e with e; omega))).trans mR;have j5 : (n7.setCell ⟨gj, 2, none⟩ (.slice (some ⟨ab, ao, none⟩) (mp + 1) c5)).cell? ⟨gj, 4, none⟩ = some (.int .i64 0) := gT.cell 4;have pI := qZ gT;have m0 := qZ p8;clear p8 gT;go_wp2_with fail
  go_ret
  have rX : ∀ k, (Value.slice (some ⟨ab, ao, none⟩) (mp + 1) c5).ownBlock = some k -> k ≠ gj := fun k hk => (B9.out k (.inr hk)).2.2.2.1
  have qT := P6.out.other m0.out (by
   cases hq : (Value.slice (some ⟨ab, ao, none⟩) (mp + 1) c5).ownBlock with
   | none => exact .inl rfl
   | some q => exact .inr (fun e => by injection e with e; exact rX q hq e)) (fun r hr hx => by injection hr with hr; exact (B9.out r (.inl hx)).2.2.2.1 hr.symm)
  have qP := qT.jat0 (t := j.term) (v := j.vote) (bad := j.bad) (gj := gj) (g := g) (by have h := pI.out; rw [<- T0.out]; exact h) (by rw [<- gE.out]; omega) cY.out.1 cY.out.2;exact HH.out.acted (es2 := aN) (F' := fun x => F5 x ∨ (Value.slice (some ⟨ab, ao, none⟩) (mp + 1) c5).ownBlock = some x) (X2.out.trans (Fr.of_grown (mine := fun k => k = gj) m0.out (fun k e => by injection e with e; exact e.symm)) (fun k hk => .inl (.inr hk))) (G6.out.keep m0.out.size (fun k hk => m0.out.block k (G6.out.lt k hk).2 (fun e => by injection e with e; subst e; exact G6.out.not_foot q8.out (by decide) (by decide) (by decide) hk))) aA.out (fun k hk => (O1.out k hk).imp id (fun h => by have := j8.out.size; omega)) qP (fun x hx => ⟨(B9.out x hx).2.1, by have := (B9.out x hx).2.2.1; have := m0.out.size; omega, (B9.out x hx).2.2.2⟩) T8 Z3.out
 have qW : (rc == 0) = false := by simpa using hz
 have Z3 := qZ (dB.out.trans (by rw [if_neg hz] : _ = (rc, (⟨j.term, j.vote, j.segs, rc⟩ : JnP), d3)));clear dB hz;go_wp2_with fail
 go_ret
 obtain ⟨sv, qN, sU⟩ := HH.out.jn.turn;have M8 : sv = .slice A nl c := by
  have e0 := g9.out.block gj nU;have e := qN.symm.trans (e0.symm.trans B4.out);injection e with e
  injection e with e _ _
  have e2 := congrArg (fun a : Array Value => a[2]?) e
  simpa using e2
 subst M8;have nB : ∀ k, F k -> n7.heap[k]? = w.heap[k]? ∧ k < n7.heap.size ∧ k ≠ gj ∧ ¬ aA8 g m aN k := fun k hk => by
  have h1 := HH.out.apart k hk;have := X2.out.size;refine ⟨X2.out.block k h1.2.1 (by rintro (h3 | h3); exact h1.2.2.2 h3; exact h1.2.2.1 h3), by omega, h1.2.2.1, fun hf => ?_⟩;rcases O1.out k hf with h3 | h3
  ·exact h1.2.2.2 h3
  have := j8.out.size; omega
 exact HH.out.acted (es2 := aN) (F' := F) X2.out G6.out aA.out (fun k hk => (O1.out k hk).imp id (fun h => by have := j8.out.size; omega)) (sU n7 j.term j.vote rc X2.out.size (fun k hk => (nB k hk).1) q8.out cY.out.1 cY.out.2) (fun k hk => ⟨.inl hk, (nB k hk).2⟩) T8 Z3.out
end Go.Proofs.YtgeofijddhflaaaGreatDoor
