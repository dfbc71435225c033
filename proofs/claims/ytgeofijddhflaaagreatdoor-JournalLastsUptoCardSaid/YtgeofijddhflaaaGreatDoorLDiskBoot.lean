/- The program's disk: Boot. Condition: the disk is a call's own; the numbers lie below it. -/
import Derived.Test.YtgeofijddhflaaaGreatDoorLDiskCut
import Derived.Test.YtgeofijddhflaaaGreatDoorLDiskNames
import Derived.Test.YtgeofijddhflaaaGreatDoorLRDiskSame
set_option linter.unusedVariables false
set_option linter.unusedSimpArgs false
set_option maxHeartbeats 8000000
set_option maxRecDepth 100000
namespace Go.Proofs.YtgeofijddhflaaaGreatDoor
open Go.RowKit Go.Maps Go.Sort Oct
section
variable {w w1 w2 wr w' : World} {base g m : Nat} {p p' : PWD} {room : Int} {es es' : List (Nm × FE)}
theorem cH6 {α : Type} {l : List (Nm × α)} (hr : aG8 l) {k : Nat} (hk : k < l.length) : aA9 l[k].1 l = some l[k].2 := by
 induction l generalizing k with
 | nil => simp at hk
 | cons y r ih =>
  have h1 := List.pairwise_cons.1 hr;cases k with
  | zero => simp [aA9]
  | succ k =>
   have a7 : k < r.length := by simpa using hk
   have a8 : ¬ (y.1 == r[k].1) = true := fun e => by
    have e' : y.1 = r[k].1 := by simpa using e
    have := h1.1 _ (lX a7);rw [e', show bytesBefore r[k].1 r[k].1 = false from WideAt.bytes_irrefl _] at this;cases this
   have := ih h1.2 a7;unfold aA9 at this ⊢;have hf : (y.1 == r[k].1) = false := by simpa using a8
   simp only [List.getElem_cons_succ, List.find?_cons, hf];exact this
theorem aB0.boot1 (h : aB0 wr base g m p room es) {n : Nm} {fe : FE} (hn : aA9 n es = some fe) (s : Nat) (hs : s <= fe.f.b.length) (nt : Nat) :
  aB0 ((wr.drewN nt).setCell ⟨fe.blk, 1, none⟩ (.int .i64 s)) base g m p room (aB3 n ⟨fe.blk, fe.v, ⟨fe.f.b, s⟩⟩ es) ∧ Fr (aA8 g m es) wr ((wr.drewN nt).setCell ⟨fe.blk, 1, none⟩ (.int .i64 s)) ∧ (∀ k, aA8 g m (aB3 n ⟨fe.blk, fe.v, ⟨fe.f.b, s⟩⟩ es) k -> aA8 g m es k ∨ wr.heap.size <= k) := by
 have a7 := aC7 hn;have hK := h.file _ a7;have hG := h.got _ a7;simp only at hK hG;have b8 := aA0 (wr.drewN nt) fe.blk 1 (.int .i64 (s : Int));have a8 : ∀ k, k ≠ fe.blk -> ((wr.drewN nt).setCell ⟨fe.blk, 1, none⟩ (.int .i64 (s : Int))).heap[k]? = wr.heap[k]? := fun k hk => Below.heap_setCell (wr.drewN nt) ⟨fe.blk, 1, none⟩ _ k (by simpa using hk)
 have a9 : Got ((wr.drewN nt).setCell ⟨fe.blk, 1, none⟩ (.int .i64 (s : Int))) base fe.v fe.f.b := hG.kept (fun i hi => a8 i (fun e => aF0 hG hK (by decide) (by rw [hi, e]))) (by simp);refine ⟨h.file_set hn fe.v ⟨fe.f.b, s⟩ (by simp) (Blk.set_ (hK.drewN nt) 1 _) a9 hs (fun i hi => .inl hi) (fun i hi h1 _ => a8 i h1), ?_, fun k hk => ?_⟩
 ·exact ((Fr.refl (aA8 g m es) wr).drewN_ nt).trans (Fr.of_grown (mine := fun k => k = fe.blk) b8 (fun k e => by injection e with e; exact e.symm)) (fun j hj => .inl (by rw [hj]; exact aR5 hn))
 exact bH1 hk (fun e => .inl (by have e' : fe.blk = k := e; rw [<- e']; exact aR5 hn)) (fun e => .inl (bS9 hn e))
theorem aB0.boot2 (h : aB0 wr base g m p room es) (hb : Below wr.heap.size wr w2) {n : Nm} {fe : FE} (hn : aA9 n es = some fe) {v : Value} {l : List UInt8} (hs : fe.f.safe <= l.length) (hg : Got w2 wr.heap.size v l) :
  aB0 (w2.setCell ⟨fe.blk, 0, none⟩ v) base g m p room (aB3 n ⟨fe.blk, v, ⟨l, fe.f.safe⟩⟩ es) ∧ Fr (aA8 g m es) wr (w2.setCell ⟨fe.blk, 0, none⟩ v) ∧ (∀ k, aA8 g m (aB3 n ⟨fe.blk, v, ⟨l, fe.f.safe⟩⟩ es) k -> aA8 g m es k ∨ wr.heap.size <= k) := by
 have a7 := aC7 hn;have h2 := h.below hb;have hK := h2.file _ a7;simp only at hK;have a9 : base <= wr.heap.size := by have := h.low.1; have := h.blk.lt; omega
 have d8 := aA0 w2 fe.blk 0 v;have a8 : ∀ k, k ≠ fe.blk -> (w2.setCell ⟨fe.blk, 0, none⟩ v).heap[k]? = w2.heap[k]? := fun k hk => Below.heap_setCell w2 ⟨fe.blk, 0, none⟩ _ k (by simpa using hk)
 have e9 : fe.blk < wr.heap.size := (h.file _ a7).lt;have b8 : Got (w2.setCell ⟨fe.blk, 0, none⟩ v) base v l := (hg.mono a9).kept (fun i hi => a8 i (fun e => by have := hg.row.base i hi; omega)) (by simp);refine ⟨h.file_set hn v ⟨l, fe.f.safe⟩ (by simp; exact hb.size) (Blk.set_ hK 0 _) b8 hs (fun i hi => .inr (hg.row.base i hi)) (fun i hi h1 _ => (a8 i h1).trans (hb.block i hi)), ?_, fun k hk => ?_⟩
 ·exact (Fr.of_below (aA8 g m es) hb).trans (Fr.of_grown (mine := fun k => k = fe.blk) d8 (fun k e => by injection e with e; exact e.symm)) (fun j hj => .inl (by rw [hj]; exact aR5 hn))
 exact bH1 hk (fun e => .inl (by have e' : fe.blk = k := e; rw [<- e']; exact aR5 hn)) (fun e => .inr (hg.row.base k e))
theorem bW9 (h : aB0 w base g m p room es) (A : Option Addr) (z : List Int) (cz : Nat) (hz : Rd w base A (z.map (Value.int .i64))) (m0 : ∀ n ∈ z, -9223372036854775808 <= n ∧ n <= 9223372036854775807) (D4 : z.length <= 140737488351232) (hl : es.length <= 549755813888) (x7 : ∀ q ∈ es, q.2.f.b.length <= 549755813888) (y9 : ∀ q ∈ es, q.1.length <= 140737488351232) :
  Calls Tryz.prog 22 #[.pointer (some ⟨g, 0, none⟩), .slice A z.length cz] w fun e w' => (∃ v, e = .returned v) ∧ aB4 w base g m es ((aD2 p room es).boot z) w' := by
 have t8 := qZ (bL5 h (by omega));have H := qZ h;have HZ := qZ hz;have C3 := qZ m0;have B5 := qZ x7;have B8 := qZ y9;have D0 : base <= w.heap.size := by have := h.low.1; have := h.blk.lt; omega
 clear h hz m0 x7 y9;go_enter Tryz.func22, Tryz.ntmps22
 go_wp2_with fail
 refine t8.out.mono ?_;rintro e w1 ⟨vn, rfl, s9, p6⟩;obtain ⟨An, cn, rfl, _, _, z7⟩ := s9.shape;have m8 := fun k hk => (s9.lt k hk)
 rw [lU];have HN := qZ z7;have B9 := qZ m8;have n9 := qZ p6;have C6 := p6.size;clear s9 z7 m8 p6 t8;go_wp2_with fail
 go_loopw [10] (fun i wr => ∃ (k : Nat) (es' : List (Nm × FE)), k <= es.length ∧ i = .int .i64 k ∧ Hid (aB0 wr base g m p room es') ∧ Hid (sec FE.f es' = aJ5 z k (sec FE.f es)) ∧ Hid (Fr (aA8 g m es) w1 wr) ∧ Hid (∀ j, aA8 g m es' j -> aA8 g m es j ∨ w1.heap.size <= j)) (fun i _ => es.length - (intOf i).toNat)
 case atStart => exact ⟨0, es, by omega, rfl, qZ (H.out.below n9.out), qZ (cL8 _ _).symm, qZ (Fr.refl _ _), qZ (fun j hj => .inl hj)⟩
 obtain ⟨k, es', hk, rfl, HD, HS, HF, HK⟩ := hrel;have l8 : es'.length = es.length := by have := congrArg List.length HS.out; simpa [aN6, sec] using this
 obtain ⟨⟨d0, d1, d2, d3, d4, d5⟩, f0, f1, f2, f3⟩ := aL8 HD.out.blk;by_cases hlt : k < es.length
 rotate_left
 ·have C4 : k = es.length := by omega
  have x4 : aJ5 z k (sec FE.f es) = ((aD2 p room es).boot z).fs := by
   rw [C4];show _ = aJ5 z (sec FE.f es).length (sec FE.f es)
   rw [aM9]
  obtain ⟨w4, n8⟩ : ∃ w4, w4 = (((wr.setCell ⟨g, 0, none⟩ (.bool false)).setCell ⟨g, 1, none⟩ (.bool false)).setCell ⟨g, 2, none⟩ (.int .i64 0)).setCell ⟨g, 3, none⟩ (.int .i64 0) := ⟨_, rfl⟩
  have p8 : wr.grownBy w4 (some g) := by rw [n8]; exact aB8 (aB8 (aB8 (aA0 wr g 0 _) (aA0 _ g 1 _) (.inl rfl)) (aA0 _ g 2 _) (.inl rfl)) (aA0 _ g 3 _) (.inl rfl)
  have B4 := qZ (HD.out.power (p' := ⟨false, false, 0, 0⟩) p8 (by rw [n8]; exact Blk.set_ (Blk.set_ (Blk.set_ (Blk.set_ HD.out.blk 0 _) 1 _) 2 _) 3 _) ⟨⟨by decide, by decide⟩, ⟨by decide, by decide⟩, HD.out.num.2.2⟩);have m3 := qZ (HF.out.trans (Fr.of_grown (mine := aA8 g m es') p8 (fun k e => by injection e with e; exact .inl e.symm)) HK.out);have C0 := qZ (HS.out.trans x4);have C2 := qZ n8;clear x4 p8 l8 n8;go_wp2_with fail
  rw [<- C2.out];go_end0
  refine ⟨⟨_, rfl⟩, _, B4.out, C0.out, (Fr.of_below (aA8 g m es) n9.out).trans m3.out (fun j hj => .inl hj), fun j hj => ?_⟩;rcases HK.out j hj with h | h
  ·exact .inl h
  exact .inr (Nat.le_trans C6 h)
 have n7 : k < es'.length := by omega
 have l9 : (es'[k].1, es'[k].2.f) = ((sec FE.f es)[k]'(by rw [aM9]; exact hlt)) := by
  have h1 := cR2 z (fs := sec FE.f es) (k := k) (by rw [aM9]; exact hlt) (by rw [aN6, aM9]; exact hlt);rw [<- h1];have h2 : (sec FE.f es')[k]'(by rw [aM9]; exact n7) = (es'[k].1, es'[k].2.f) := by simp [sec]
  rw [<- h2];exact List.getElem_of_eq HS.out _
 have q8 : ((sec FE.f es)[k]'(by rw [aM9]; exact hlt)) = (es[k].1, es[k].2.f) := by simp [sec]
 have q5 : es'[k].1 = es[k].1 := by rw [q8] at l9; injection l9
 have x8 : es'[k].2.f = es[k].2.f := by rw [q8] at l9; injection l9
 have y7 : es'[k].2.f.b.length <= 549755813888 := by rw [x8]; exact B5.out _ (lX hlt)
 have C5 : es'[k].1.length <= 140737488351232 := by rw [q5]; exact B8.out _ (lX hlt)
 have i4 := cH6 HD.out.rising n7;have hm : es'[k] ∈ es' := lX n7;have a8 := HD.out.file _ hm;obtain ⟨Ax, cx, hv, z9, D3, B1⟩ := (HD.out.got _ hm).shape;have q9 := HD.out.safe _ hm;obtain ⟨p4, t9, m5, x5⟩ := bG6 (f := fun q : Nm × FE => Value.string (str q.1)) HN.out hlt;have m7 : wr.cell? (p4.add k) = some (.string (str es'[k].1)) := by
  rw [q5];refine (World.cell?_of_block (w := w1) ?_).trans x5;rw [aC5];refine HF.out.block p4.block m5 (fun hm => ?_);have h1 := (H.out.lt _ hm).2;have h2 := (B9.out p4.block (by rw [t9]; rfl)).1;omega
 have hl := HD.out.map.get Tryz.underlying9 Tryz.underlying59 (aX3 wr) (str es'[k].1) (by rw [aP0]; unfold maxLen; omega);rw [cL0, aJ4, i4] at hl;have y8 : (Instr.lookup 59 (.map (some m)) (.string (str es'[k].1)) false).run Tryz.prog wr = .ok (.pointer (some ⟨es'[k].2.blk, 0, none⟩)) wr := hl;have hB := cD0 z k es'[k].2.f q9;have o9 : Hid (∀ ad, A = some ad -> ad.block < base -> wr.heap[ad.block]? = w.heap[ad.block]?) := qZ (fun ad e hlo => (HF.out.block ad.block (by omega) (fun hm => by have := (H.out.lt _ hm).1; omega)).trans (n9.out.block ad.block (by omega)));have j8 := HD.out.rising;have b8 : Hid (∀ s v, s = (aL9 z k es'[k].2.f).safe -> sec FE.f (aB3 es'[k].1 ⟨es'[k].2.blk, v, ⟨es'[k].2.f.b.take s, s⟩⟩ es') = aJ5 z (k + 1) (sec FE.f es)) := qZ (fun s v hs => by
  rw [aU3 j8 n7, dL0, HS.out, <- cL7 z (by rw [aM9]; exact hlt), <- l9];show _ = (aJ5 z k (sec FE.f es)).set k (es'[k].1, aL9 z k es'[k].2.f)
  rw [hs]
  rfl)
 obtain ⟨q, hq⟩ : ∃ q, q = es'[k] := ⟨_, rfl⟩
 rw [<- hq] at i4 y7 C5 a8 hv z9 B1 q9 m7 y8 hB b8;have e0 : wr.cell? ⟨q.2.blk, 0, none⟩ = some (.slice Ax q.2.f.b.length cx) := by rw [<- hv]; exact a8.cell 0
 have e1 : wr.cell? ⟨q.2.blk, 1, none⟩ = some (.int .i64 q.2.f.safe) := a8.cell 1;have u0 : wr.frozen? ⟨q.2.blk, 0, none⟩ = false := a8.frozen 0;have u1 : wr.frozen? ⟨q.2.blk, 1, none⟩ = false := a8.frozen 1;have p7 : q.2.blk < wr.heap.size := a8.lt;have HQ := qZ i4;have HV := qZ hv;have HB := qZ hB;have B7 := qZ l8;have D1 : (k : Int) < (es.length : Int) := by omega
 obtain ⟨qn, blk, qv, qb, qs⟩ := q;simp only at e0 e1 u0 u1 p7 z9 q9 y7 m7 y8;subst t9;clear l9 q8 q5 x8 i4 hm a8 hv B1 x5 hl hB j8 hq l8 m5 d0 d1 d2 d3 d4 f0 f1 f2 f3;by_cases hkz : k < z.length
 rotate_left
 ·have f9 : (aL9 z k ⟨qb, qs⟩).safe = qs := by
   unfold aL9;show qs + _ = _
   rw [if_neg hkz]
   rfl
  have p9 : ¬ (k : Int) < (z.length : Int) := by omega
  obtain ⟨s, hs⟩ : ∃ s, s = qs := ⟨_, rfl⟩
  have l6 := qZ (f9.trans hs.symm);have r9 : s <= qb.length := by omega
  have i3 := HQ;simp only at i3;have B6 := qZ hs;have i3 : Hid (aA9 qn es' = some ⟨blk, qv, ⟨qb, s⟩⟩) := qZ (by rw [B6.out]; exact HQ.out);rw [<- hs] at e1;clear f9 hs;go_wp2_with fail
  obtain ⟨W1, i6⟩ : ∃ W1, W1 = wr := ⟨_, rfl⟩
  have i2 : Hid (aB0 W1 base g m p room es') := by rw [i6]; exact HD
  have j9 : Hid (Fr (aA8 g m es') wr W1) := by rw [i6]; exact qZ (Fr.refl _ _)
  have l4 : Hid (∀ k, aA8 g m es' k -> aA8 g m es' k ∨ wr.heap.size <= k) := qZ (fun k hk => .inl hk);have g7 := fun v => qZ (rfl : aB3 qn (⟨blk, v, ⟨qb.take s, s⟩⟩ : FE) es' = aB3 qn ⟨blk, v, ⟨qb.take s, s⟩⟩ es')
  rw [<- i6];clear i6 e0 e1 u0 u1;have f8 : (qb.take s).length = s := by rw [lV]; omega
  have a7 := aC7 i3.out;have a8 := i2.out.file _ a7;have d8 : blk < W1.heap.size := a8.lt;obtain ⟨A8, c8, h8, _, _, r8⟩ := (i2.out.got _ a7).shape;simp only at h8 r8 a8;have h9 : qv = .slice Ax qb.length cx := HV.out;rw [h9] at h8;have e0 : W1.cell? ⟨blk, 0, none⟩ = some (.slice Ax qb.length cx) := by rw [<- h9]; exact a8.cell 0
  have e1 : W1.cell? ⟨blk, 1, none⟩ = some (.int .i64 (s : Int)) := a8.cell 1;injection h8 with h8 h8b h8c
  clear h8b h8c;have i1 : Rd W1 W1.heap.size Ax (cells (qb.take s)) := by rw [h8]; unfold cells; rw [List.map_take]; exact Rd.take r8 _
  have q7 : s <= cx := by omega
  have hcut := fun W : World => bM5 (P := Tryz.prog) Tryz.underlying34 aG0 Ax qb.length cx 0 s (by omega) (by omega) 0 (s : Int) rfl rfl W
  have m2 := qZ (aU7 Ax (qb.take s) s cx f8.symm W1.drew (show Rd W1.drew W1.drew.heap.size Ax _ from i1) (by omega));have g6 := qZ f8;have p0 := qZ a8;clear h8 r8 h9 i1 a7 a8 f8;refine aD4 13 (by kernel_rfl) (S := fun W => W.cell? ⟨blk, 0, none⟩ = some (.slice Ax qb.length cx) ∧ W.cell? ⟨blk, 1, none⟩ = some (.int .i64 (s : Int)) ∧ True ∧ True) ⟨e0, e1, trivial, trivial⟩ (fun hHeld => ?_);refine zU 0 (k := ?_);refine zU 1 (k := ?_);refine zU 2 (k := ?_);refine zU 3 (k := ?_);refine zU 4 (k := ?_);refine zU 5 (k := ?_);refine zU 6 (k := ?_);refine zU 7 (k := ?_);refine zU 8 (k := ?_);refine zU 9 (k := ?_);simp only [zA, zB, zF, zG, zC, zD, zE];refine zW 10 (k := fun K hK => ?_);simp only [zA, zB];go_simp;refine (m2.out).mono ?_;rintro e W2 ⟨v5, rfl, l7, g8⟩;obtain ⟨A5, c5, m9, _⟩ := aD5 l7;rw [g6.out] at m9;subst m9;have b0 := g8.cell (p := ⟨blk, 0, none⟩) d8;have b1 := g8.cell (p := ⟨blk, 1, none⟩) d8;rw [show W1.drew.cell? ⟨blk, 0, none⟩ = _ from e0] at b0;rw [show W1.drew.cell? ⟨blk, 1, none⟩ = _ from e1] at b1;have g9 : Below W1.heap.size W1 W2 := (lS _ W1).drew.trans g8;have m4 : Blk W2 blk 83 _ := (g8.block blk d8).trans p0.out;have b2 : W2.frozen? ⟨blk, 0, none⟩ = false := m4.frozen 0;have f7 := aB0.boot2 i2.out g9 i3.out (v := .slice A5 s c5) (l := qb.take s) (by rw [g6.out]; exact lR _) (Got.of_own l7);rw [(g7 _).out] at f7;have a9 := qZ f7;clear g8 g9 l7 m4 f7;refine hK.out _ _ ⟨b0, b1, trivial, trivial⟩ (fun hHeld => ?_);clear hK K;try simp only [zF, zG, zC, zD, zE]
  refine zW 11 (k := fun K hK => ?_);simp only [zA, zB];go_simp;refine hK.out _ _ ⟨b0, b1, trivial, trivial⟩ (fun hHeld => ?_);clear hK K;try simp only [zF, zG, zC, zD, zE]
  refine zW 12 (k := fun K hK => ?_);simp only [zA, zB];go_simp;refine hK.out _ _ ⟨b0, b1, trivial, trivial⟩ (fun hHeld => ?_);clear hK K;try simp only [zF, zG, zC, zD, zE]
  refine aH0 (t := 13) (by simp) (by kernel_rfl) (by kernel_rfl) (fun K hK => ?_);simp only [zA, zB];go_simp;refine hK.out _ _ ?_;clear hK K hHeld b0 b1 b2 hcut m2 e0 e1;have m3 := qZ ((HF.out.trans j9.out HK.out).trans a9.out.2.1 (fun j hj => by
   rcases l4.out j hj with h | h
   ·exact HK.out j h
   exact .inr (Nat.le_trans HF.out.size h)))
  have o8 : Hid (∀ j, aA8 g m (aB3 qn ⟨blk, .slice A5 s c5, ⟨qb.take s, s⟩⟩ es') j -> aA8 g m es j ∨ w1.heap.size <= j) := qZ (fun j hj => by
   rcases a9.out.2.2 j hj with h | h
   ·rcases l4.out j h with h | h
    ·exact HK.out j h
    exact .inr (Nat.le_trans HF.out.size h)
   exact .inr (Nat.le_trans (Nat.le_trans HF.out.size j9.out.size) h))
  have l5 := qZ (b8.out s (.slice A5 s c5) l6.out.symm);have o7 := qZ a9.out.1;clear a9 b8 i2 i3 j9 l4 g7;go_wp2_with fail
  go_roundw
  case rel => exact ⟨k + 1, _, by omega, by go_num, o7, l5, m3, o8⟩
  case measure => simp [intOf]; omega
 obtain ⟨nn, q6⟩ : ∃ nn : Nat, z.getD k 0 % ((qb.length : Int) - qs + 1) = (nn : Int) := ⟨(z.getD k 0 % ((qb.length : Int) - qs + 1)).toNat, by have := Int.emod_nonneg (z.getD k 0) (show ((qb.length : Int) - qs + 1) ≠ 0 by omega); omega⟩
 have f9 : (aL9 z k ⟨qb, qs⟩).safe = qs + nn := by
  unfold aL9;show qs + _ = _
  rw [if_pos hkz, q6]
  rfl
 have r9 : qs + nn <= qb.length := by have := HB.out.1; simp only at this; rw [f9] at this; exact this
 obtain ⟨p5, hA, m6, x6⟩ := bG6 HZ.out hkz;have e9 : wr.cell? (p5.add k) = some (.int .i64 (z.getD k 0)) := by
  rw [show z.getD k 0 = z[k] by simp [List.getD, hkz]];exact (World.cell?_of_block (w := w) (by rw [aC5]; exact o9.out p5 hA m6)).trans x6
 have m0 := C3.out _ (lX hkz);rw [show z[k] = z.getD k 0 by simp [List.getD, hkz]] at m0;have n6 := fun W : World => qZ (cI5 (z.getD k 0) ((qb.length : Int) - qs + 1) m0 (by omega) W)
 rw [q6] at n6;obtain ⟨zk, B2⟩ : ∃ zk, zk = z.getD k 0 := ⟨_, rfl⟩
 rw [<- B2] at e9 m0 n6;have p9 : (k : Int) < (z.length : Int) := by omega
 have C7 : IntKind.i64.wrap ((qb.length : Int) - (qs : Int)) = (qb.length : Int) - qs := mH _ (by omega);have C8 : IntKind.i64.wrap ((qb.length : Int) - (qs : Int) + 1) = (qb.length : Int) - qs + 1 := mH _ (by omega);have C9 : IntKind.i64.wrap ((qs : Int) + (nn : Int)) = (qs : Int) + nn := mH _ (by omega);subst hA;obtain ⟨s, hs⟩ : ∃ s, s = qs + nn := ⟨_, rfl⟩
 have j6 := HD.out.boot1 HQ.out (qs + nn) r9 1;have l6 := qZ (f9.trans hs.symm);rw [<- hs] at r9 j6;have z8 : (qs : Int) + (nn : Int) = (s : Int) := by omega
 have C1 := qZ z8;have t7 := qZ j6;clear q6 f9 x6 m6 B2 hs j6 z8;go_wp2_with fail
 refine aD4 23 (by kernel_rfl) (S := fun W => W.cell? ⟨blk, 0, none⟩ = some (.slice Ax qb.length cx) ∧ W.cell? ⟨blk, 1, none⟩ = some (.int .i64 (qs : Int)) ∧ W.cell? (p5.add k) = some (.int .i64 zk) ∧ True) ⟨e0, e1, e9, trivial⟩ (fun hHeld => ?_);refine zU 0 (k := ?_);refine zU 1 (k := ?_);refine zU 2 (k := ?_);refine zU 3 (k := ?_);refine zU 4 (k := ?_);refine zU 5 (k := ?_);refine zU 6 (k := ?_);refine zU 7 (k := ?_);refine zU 8 (k := ?_);refine zU 9 (k := ?_);refine zU 10 (k := ?_);refine zU 11 (k := ?_);refine zU 12 (k := ?_);refine zU 13 (k := ?_);refine zU 14 (k := ?_);refine zU 15 (k := ?_);refine zU 16 (k := ?_);refine zU 17 (k := ?_);refine zU 18 (k := ?_);simp only [zA, zB, zF, zG, zC, zD, zE];refine zW 19 (k := fun K hK => ?_);simp only [zA, zB];go_simp;refine (n6 _).out.mono ?_;rintro e w' ⟨rfl, rfl⟩;refine hK.out _ _ ⟨e0, e1, e9, trivial⟩ (fun hHeld => ?_);clear hK K;try simp only [zF, zG, zC, zD, zE]
 refine zW 20 (k := fun K hK => ?_);simp only [zA, zB];go_simp;refine hK.out _ _ ⟨e0, e1, e9, trivial⟩ (fun hHeld => ?_);clear hK K;try simp only [zF, zG, zC, zD, zE]
 refine zW 21 (k := fun K hK => ?_);simp only [zA, zB];go_simp;refine hK.out _ _ ⟨e0, e1, e9, trivial⟩ (fun hHeld => ?_);clear hK K;try simp only [zF, zG, zC, zD, zE]
 refine zW 22 (k := fun K hK => ?_);simp only [zA, zB];go_simp;refine hK.out _ _ ⟨e0, e1, e9, trivial⟩ (fun hHeld => ?_);clear hK K;try simp only [zF, zG, zC, zD, zE]
 refine aH0 (t := 23) (by simp) (by kernel_rfl) (by kernel_rfl) (fun K hK => ?_);simp only [zA, zB];go_simp;refine hK.out _ _ ?_;clear hK K hHeld;rw [C1.out];obtain ⟨W1, i6⟩ : ∃ W1, W1 = (wr.setCell ⟨blk, 1, none⟩ (.int .i64 (s : Int))).drew := ⟨_, rfl⟩
 have j6 : aB0 W1 base g m p room (aB3 qn ⟨blk, qv, ⟨qb, s⟩⟩ es') ∧ Fr (aA8 g m es') wr W1 ∧ (∀ k, aA8 g m (aB3 qn ⟨blk, qv, ⟨qb, s⟩⟩ es') k -> aA8 g m es' k ∨ wr.heap.size <= k) := by rw [i6]; exact t7.out
 have i2 := qZ j6.1;have j9 := qZ j6.2.1;have l4 := qZ j6.2.2;have i3 := qZ (aL7 qn (⟨blk, qv, ⟨qb, s⟩⟩ : FE) es');have g7 := fun v => qZ (bW2 qn (⟨blk, v, ⟨qb.take s, s⟩⟩ : FE) (⟨blk, qv, ⟨qb, s⟩⟩ : FE) es')
 rw [<- i6];clear j6 i6 t7 e0 e1 u0 u1 C7 C8 C9 e9 n6;go_wp2_with fail
 have f8 : (qb.take s).length = s := by rw [lV]; omega
 have a7 := aC7 i3.out;have a8 := i2.out.file _ a7;have d8 : blk < W1.heap.size := a8.lt;obtain ⟨A8, c8, h8, _, _, r8⟩ := (i2.out.got _ a7).shape;simp only at h8 r8 a8;have h9 : qv = .slice Ax qb.length cx := HV.out;rw [h9] at h8;have e0 : W1.cell? ⟨blk, 0, none⟩ = some (.slice Ax qb.length cx) := by rw [<- h9]; exact a8.cell 0
 have e1 : W1.cell? ⟨blk, 1, none⟩ = some (.int .i64 (s : Int)) := a8.cell 1;injection h8 with h8 h8b h8c
 clear h8b h8c;have i1 : Rd W1 W1.heap.size Ax (cells (qb.take s)) := by rw [h8]; unfold cells; rw [List.map_take]; exact Rd.take r8 _
 have q7 : s <= cx := by omega
 have hcut := fun W : World => bM5 (P := Tryz.prog) Tryz.underlying34 aG0 Ax qb.length cx 0 s (by omega) (by omega) 0 (s : Int) rfl rfl W
 have m2 := qZ (aU7 Ax (qb.take s) s cx f8.symm W1.drew (show Rd W1.drew W1.drew.heap.size Ax _ from i1) (by omega));have g6 := qZ f8;have p0 := qZ a8;clear h8 r8 h9 i1 a7 a8 f8;refine aD4 13 (by kernel_rfl) (S := fun W => W.cell? ⟨blk, 0, none⟩ = some (.slice Ax qb.length cx) ∧ W.cell? ⟨blk, 1, none⟩ = some (.int .i64 (s : Int)) ∧ True ∧ True) ⟨e0, e1, trivial, trivial⟩ (fun hHeld => ?_);refine zU 0 (k := ?_);refine zU 1 (k := ?_);refine zU 2 (k := ?_);refine zU 3 (k := ?_);refine zU 4 (k := ?_);refine zU 5 (k := ?_);refine zU 6 (k := ?_);refine zU 7 (k := ?_);refine zU 8 (k := ?_);refine zU 9 (k := ?_);simp only [zA, zB, zF, zG, zC, zD, zE];refine zW 10 (k := fun K hK => ?_);simp only [zA, zB];go_simp;refine (m2.out).mono ?_;rintro e W2 ⟨v5, rfl, l7, g8⟩;obtain ⟨A5, c5, m9, _⟩ := aD5 l7;rw [g6.out] at m9;subst m9;have b0 := g8.cell (p := ⟨blk, 0, none⟩) d8;have b1 := g8.cell (p := ⟨blk, 1, none⟩) d8;rw [show W1.drew.cell? ⟨blk, 0, none⟩ = _ from e0] at b0;rw [show W1.drew.cell? ⟨blk, 1, none⟩ = _ from e1] at b1;have g9 : Below W1.heap.size W1 W2 := (lS _ W1).drew.trans g8;have m4 : Blk W2 blk 83 _ := (g8.block blk d8).trans p0.out;have b2 : W2.frozen? ⟨blk, 0, none⟩ = false := m4.frozen 0;have f7 := aB0.boot2 i2.out g9 i3.out (v := .slice A5 s c5) (l := qb.take s) (by rw [g6.out]; exact lR _) (Got.of_own l7);rw [(g7 _).out] at f7;have a9 := qZ f7;clear g8 g9 l7 m4 f7;refine hK.out _ _ ⟨b0, b1, trivial, trivial⟩ (fun hHeld => ?_);clear hK K;try simp only [zF, zG, zC, zD, zE]
 refine zW 11 (k := fun K hK => ?_);simp only [zA, zB];go_simp;refine hK.out _ _ ⟨b0, b1, trivial, trivial⟩ (fun hHeld => ?_);clear hK K;try simp only [zF, zG, zC, zD, zE]
 refine zW 12 (k := fun K hK => ?_);simp only [zA, zB];go_simp;refine hK.out _ _ ⟨b0, b1, trivial, trivial⟩ (fun hHeld => ?_);clear hK K;try simp only [zF, zG, zC, zD, zE]
 refine aH0 (t := 13) (by simp) (by kernel_rfl) (by kernel_rfl) (fun K hK => ?_);simp only [zA, zB];go_simp;refine hK.out _ _ ?_;clear hK K hHeld b0 b1 b2 hcut m2 e0 e1;have m3 := qZ ((HF.out.trans j9.out HK.out).trans a9.out.2.1 (fun j hj => by
  rcases l4.out j hj with h | h
  ·exact HK.out j h
  exact .inr (Nat.le_trans HF.out.size h)))
 have o8 : Hid (∀ j, aA8 g m (aB3 qn ⟨blk, .slice A5 s c5, ⟨qb.take s, s⟩⟩ es') j -> aA8 g m es j ∨ w1.heap.size <= j) := qZ (fun j hj => by
  rcases a9.out.2.2 j hj with h | h
  ·rcases l4.out j h with h | h
   ·exact HK.out j h
   exact .inr (Nat.le_trans HF.out.size h)
  exact .inr (Nat.le_trans (Nat.le_trans HF.out.size j9.out.size) h))
 have l5 := qZ (b8.out s (.slice A5 s c5) l6.out.symm);have o7 := qZ a9.out.1;clear a9 b8 i2 i3 j9 l4 g7;go_wp2_with fail
 go_roundw
 case rel => exact ⟨k + 1, _, by omega, by go_num, o7, l5, m3, o8⟩
 case measure => simp [intOf]; omega
end
end Go.Proofs.YtgeofijddhflaaaGreatDoor
