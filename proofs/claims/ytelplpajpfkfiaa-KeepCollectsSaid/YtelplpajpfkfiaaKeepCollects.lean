/- KeepCollects: an inbox, piece by piece; any pieces: the walk. Condition: the argument can be read, within the form's reach. -/
import Derived.Test.YtelplpajpfkfiaaKeepPutN
import Derived.Test.YtelplpajpfkfiaaKeepWant
import Derived.Test.YtelplpajpfkfiaaOpenP
set_option linter.unusedVariables false
namespace Go.Proofs.Ytelplpajpfkfiaa
open Go.RowKit Oct

/-- Below N all blocks but the bad ones stand as they did. -/
structure Kp (N : Nat) (bad : Nat → Prop) (w w' : World) : Prop where
  size : w.heap.size ≤ w'.heap.size
  block : ∀ k, k < N → ¬ bad k → w'.heap[k]? = w.heap[k]?
theorem Kp.below {N B : Nat} {bad : Nat → Prop} {w w' : World} (h : Below B w w') (hN : N ≤ B) : Kp N bad w w' := ⟨h.size, fun k hk _ => h.block k (by omega)⟩
theorem Kp.trans {N : Nat} {bad : Nat → Prop} {w w1 w2 : World} (h : Kp N bad w w1) (k : Kp N bad w1 w2) : Kp N bad w w2 := ⟨Nat.le_trans h.size k.size, fun j hj hb => (k.block j hj hb).trans (h.block j hj hb)⟩
theorem Kp.of_but {x y : Value} {w w' : World} (h : But x y w w') {N : Nat} {bad : Nat → Prop} (hN : N ≤ w.heap.size) (hx : ∀ k, x.ownBlock = some k → bad k) (hy : ∀ k, y.ownBlock = some k → bad k) : Kp N bad w w' :=
  ⟨h.size, fun k hk hb => h.block k (by omega) (fun e => hb (hx k e)) (fun e => hb (hy k e))⟩
theorem Kp.of_others {vs : List Value} {w w' : World} (h : Others vs w w') {N : Nat} {bad : Nat → Prop} (hv : ∀ v ∈ vs, ∀ k, v.ownBlock = some k → bad k) : Kp N bad w w' :=
  ⟨Nat.le_of_eq h.size.symm, fun k hk hb => h.block k (fun v hm e => hb (hv v hm k e))⟩
theorem Own.keepK {w w' : World} {base : Nat} {e : TypeId} {v : Value} {xs : List Value} (hg : Own w base e v xs) (h : ∀ q, v.ownBlock = some q → w'.heap[q]? = w.heap[q]?) : Own w' base e v xs := by
  refine ⟨hg.1, ?_⟩
  rcases hg.2 with h2 | ⟨g, cap, cur, hv, hb2, hg2, r⟩
  · exact .inl h2
  · exact .inr ⟨g, cap, cur, hv, hb2, (h g (by rw [hv]; rfl)).trans hg2, r⟩
theorem Own.kp {N : Nat} {bad : Nat → Prop} {w w' : World} (h : Kp N bad w w') {base : Nat} {e : TypeId} {v : Value} {xs : List Value} (hg : Own w base e v xs) (hv : ∀ q, v.ownBlock = some q → q < N ∧ ¬ bad q) : Own w' base e v xs :=
  hg.keepK fun q hq => h.block q (hv q hq).1 (hv q hq).2
theorem Blk.kp {N : Nat} {bad : Nat → Prop} {w w' : World} (h : Kp N bad w w') {g : Nat} {t : TypeId} {cs : Array Value} (hg : Blk w g t cs) (hn : g < N) (hb : ¬ bad g) : Blk w' g t cs := (h.block g hn hb).trans hg
theorem InbAt.kp {N : Nat} {bad : Nat → Prop} {w w' : World} (h : Kp N bad w w') {g : Nat} {s : Inb} {v : Value} (hI : InbAt w g s v) (hn : g < N) (hb : ¬ bad g) (hv : ∀ q, v.ownBlock = some q → q < N ∧ ¬ bad q) : InbAt w' g s v := ⟨hI.1.kp h hn hb, Own.kp h hI.2 hv⟩
theorem RInbAt.kp {N : Nat} {bad : Nat → Prop} {w w' : World} (h : Kp N bad w w') {g : Nat} {s : Inb} {v : Value} (hI : RInbAt w g s v) (hn : g < N) (hb : ¬ bad g) (hv : ∀ q, v.ownBlock = some q → q < N ∧ ¬ bad q) : RInbAt w' g s v := ⟨hI.1.kp h hn hb, Own.kp h hI.2 hv⟩

theorem kept_q (g : Nat) (A : Option Addr) (l : List UInt8) (c B : Nat) (w : World) (hb : LentAt w g l) (hr : Rd w B A (cells l)) (hl : l.length ≤ 140737488351232) (n : Nat) :
    Calls Try.prog 22 #[.slice (some ⟨g, 0, none⟩) l.length (l.length + 1), .slice A l.length c] (w.drewN n) fun e w' => e = .returned (.bool true) ∧ w' = w.drewN n :=
  (kept_any g A l c B (w.drewN n) (Blk.drewN hb n) (hr.drewN n) hl).mono fun e w' h => ⟨h.1, h.2.symm⟩
theorem oZ_len (b : List UInt8) : (oZ b).length ≤ 64 := by
  unfold oZ
  split
  · rename_i h
    unfold readB at h
    simp only [Bool.and_eq_true] at h
    exact (may_len h.2).1
  · simp
theorem RInbAt.below {w w' : World} {g : Nat} {s : Inb} {v : Value} (h : RInbAt w g s v) {B : Nat} (hb : Below B w w') (hB : w.heap.size ≤ B) : RInbAt w' g s v :=
  ⟨Blk.below h.1 hb (by have := h.1.lt; omega), Own.below h.2 hb hB⟩
theorem InbAt.below {w w' : World} {g : Nat} {s : Inb} {v : Value} (h : InbAt w g s v) {B : Nat} (hb : Below B w w') (hB : w.heap.size ≤ B) : InbAt w' g s v :=
  ⟨Blk.below h.1 hb (by have := h.1.lt; omega), Own.below h.2 hb hB⟩
theorem Kp.mono {N : Nat} {bad bad' : Nat → Prop} {w w' : World} (h : Kp N bad w w') (hb : ∀ k, bad k → bad' k) {N' : Nat} (hN : N' ≤ N) : Kp N' bad' w w' := ⟨h.size, fun k hk hn => h.block k (by omega) (fun e => hn (hb k e))⟩

set_option maxHeartbeats 8000000 in
set_option maxRecDepth 100000 in
theorem keepCollects_walk (w : World) (A : Option Addr) (ps : List Pc) (c : Nat) (hps : InPcs w A ps c) :
    Calls Try.prog 18 #[.slice A ps.length c] w fun e w' => e = .returned (.bool true) ∧ Below w.heap.size w w' := by
  have hpl : ps.length ≤ 140737488351232 := by have := hps.le; have := hps.cap; omega
  have HPS := Lib.hid hps
  clear hps
  go_enter Try.func18, Try.ntmps18
  go_wp2_with fail
  refine (keepSmall _).mono ?_
  rintro e w1 ⟨rfl, hb1⟩
  have HB1 := Lib.hid hb1
  have hs1 : w.heap.size ≤ w1.heap.size := hb1.size
  clear hb1
  go_wp2_with fail
  refine (newInbox_any w1).mono ?_
  rintro e w2 ⟨rfl, hI2, hb2, hlt2⟩
  obtain ⟨G, hG⟩ : ∃ G, G = w1.heap.size := ⟨_, rfl⟩
  rw [← hG] at hI2 hb2 hlt2 hs1
  have HI2 := Lib.hid hI2
  have HB2 := Lib.hid hb2
  have HG := Lib.hid hG
  rw [← hG]
  clear hI2 hb2 hG
  go_wp2_with fail
  refine (newRInbox_any w2).mono ?_
  rintro e w3 ⟨rfl, hR3, hb3, hlt3⟩
  obtain ⟨H, hH⟩ : ∃ H, H = w2.heap.size := ⟨_, rfl⟩
  rw [← hH] at hR3 hb3 hlt3 hlt2
  have HI3 := Lib.hid (InbAt.below HI2.out hb3 (by omega))
  have HR3 := Lib.hid hR3
  have HB3 := Lib.hid (HB1.out.trans ((HB2.out.trans (hb3.mono (Nat.le_of_lt hlt2))).mono hs1))
  rw [← hH]
  clear hR3 hb3 hH HI2 HB2 HB1 HG
  go_wp2_with fail
  go_loopw [6] (fun n wr => ∃ (k : Nat) (s : Inb) (v vy : Value), k ≤ 200 ∧ n = .int .i64 k ∧ Hid s.ok ∧ Hid (InbAt wr G s v) ∧ Hid (RInbAt wr H s vy) ∧ Hid ((∀ q, v.ownBlock = some q → vy.ownBlock ≠ some q) ∧ v.ownBlock ≠ some H) ∧ Hid (Below w.heap.size w wr) ∧ H < wr.heap.size) (fun n _ => 200 - (intOf n).toNat)
  case atStart => exact ⟨0, inb0, _, _, by omega, rfl, Lib.hid (.inl rfl), HI3, HR3, Lib.hid ⟨fun q hq => by simp [Value.ownBlock] at hq, by simp [Value.ownBlock]⟩, HB3, hlt3⟩
  case round =>
    obtain ⟨k, s, v, vy, hk, rfl, hok, hI, hR, hap, hB, hHr⟩ := hrel
    clear HI3 HR3 HB3 hlt3
    by_cases hlt : k < ps.length ∧ k < 200
    · obtain ⟨hlt, hlt2'⟩ := hlt
      have hltI : (k : Int) < ps.length := by omega
      have hltI2 : (k : Int) < 200 := by omega
      obtain ⟨ad, rfl, hadl, hgood⟩ := HPS.out.at_ k hlt
      obtain ⟨o, had, a0, a1, a2, a3, a4⟩ := pc_lit hgood
      obtain ⟨-, -, -, -, -, bi, bt, bn, bm, h8⟩ := hgood
      obtain ⟨p, hp⟩ : ∃ p, p = ps[k] := ⟨_, rfl⟩
      rw [← hp] at a0 a1 a2 a3 a4 bi bt bn bm h8
      clear hp
      obtain ⟨pi, pt, pn, pm, pA, pl, pc⟩ := p
      dsimp only at a0 a1 a2 a3 a4 bi bt bn bm h8
      have H8 := Lib.hid h8
      have hll : pl.length ≤ 140737488351232 := Nat.le_trans h8.le h8.cap
      have CA := Lib.hid (And.intro a0 (And.intro a1 (And.intro a2 (And.intro a3 a4))))
      have HAL : Hid (∀ (W : World), Below w.heap.size w W → W.cell? ⟨ad.block, o, none⟩ = some (.int .i64 pi) ∧ W.cell? ⟨ad.block, o + 1, none⟩ = some (.int .i64 pt) ∧ W.cell? ⟨ad.block, o + 2, none⟩ = some (.int .i64 pn) ∧ W.cell? ⟨ad.block, o + 3, none⟩ = some (.int .i64 pm) ∧ W.cell? ⟨ad.block, o + 4, none⟩ = some (.slice pA pl.length pc)) := Lib.hid (fun W hb => by
        have hc : ∀ j, W.cell? ⟨ad.block, j, none⟩ = w.cell? ⟨ad.block, j, none⟩ := fun j => hb.cell (p := ⟨ad.block, j, none⟩) hadl
        exact ⟨(hc _).trans CA.out.1, (hc _).trans CA.out.2.1, (hc _).trans CA.out.2.2.1, (hc _).trans CA.out.2.2.2.1, (hc _).trans CA.out.2.2.2.2⟩)
      have HBI := Lib.hid (And.intro bi (And.intro bt (And.intro bn bm)))
      clear a0 a1 a2 a3 a4 h8 bi bt bn bm CA
      obtain ⟨a0, a1, a2, a3, a4⟩ := HAL.out wr hB.out
      have hsr : w.heap.size ≤ wr.heap.size := hB.out.size
      have KB1 := Blk.new wr 71 #[.int .i64 pi, .int .i64 pt, .int .i64 pn, .int .i64 pm, .slice pA pl.length pc]
      obtain ⟨k0, k1, k2, k3, k4, _, _, _, _, f4⟩ := blk5_at KB1
      have hs1' : (wr.alloc (.cells #[.int .i64 pi, .int .i64 pt, .int .i64 pn, .int .i64 pm, .slice pA pl.length pc] 71)).heap.size = wr.heap.size + 1 := by simp
      have hbA := (Below.refl wr.heap.size wr).alloc (Nat.le_refl _) (.cells #[.int .i64 pi, .int .i64 pt, .int .i64 pn, .int .i64 pm, .slice pA pl.length pc] 71)
      have HBA := Lib.hid hbA
      have HKB := Lib.hid KB1
      clear KB1 hbA
      go_wp2_with fail
      generalize hWA : wr.alloc (.cells #[.int .i64 pi, .int .i64 pt, .int .i64 pn, .int .i64 pm, .slice pA pl.length pc] 71) = WA at HBA HKB hs1' k0 k1 k2 k3 k4 f4 ⊢
      clear hWA k0 k1 k2 k3 k4 f4
      refine (lent_any pA pl pc WA ((H8.out.rd.below (hB.out.trans (HBA.out.mono hsr))).more (by omega)) hll).mono ?_
      rintro e w4 ⟨rfl, hL4, hb4⟩
      rw [hs1'] at hL4 hb4 ⊢
      have KB4 := HKB.out.below hb4 (by omega)
      obtain ⟨k0, k1, k2, k3, k4, _, _, _, _, f4⟩ := blk5_at KB4
      have hbr5 := Lib.hid ((HBA.out.trans (hb4.mono (by omega))).setCell (p := ⟨wr.heap.size, 4, none⟩) (Nat.le_refl _) (.slice (some ⟨wr.heap.size + 1, 0, none⟩) pl.length (pl.length + 1)))
      have KB5 := Lib.hid (show Blk (w4.setCell ⟨wr.heap.size, 4, none⟩ (.slice (some ⟨wr.heap.size + 1, 0, none⟩) pl.length (pl.length + 1))) wr.heap.size 71 #[.int .i64 pi, .int .i64 pt, .int .i64 pn, .int .i64 pm, .slice (some ⟨wr.heap.size + 1, 0, none⟩) pl.length (pl.length + 1)] from Blk.set_ KB4 4 _)
      have HL5 := Lib.hid (show LentAt (w4.setCell ⟨wr.heap.size, 4, none⟩ (.slice (some ⟨wr.heap.size + 1, 0, none⟩) pl.length (pl.length + 1))) (wr.heap.size + 1) pl from Blk.far hL4 (by show wr.heap.size + 1 ≠ wr.heap.size; omega) _)
      clear hL4 hb4 KB4 HBA HKB hs1'
      go_upto_region 11 with fail
      clear k0 k1 k2 k3 k4 f4 a0 a1 a2 a3 a4
      generalize w4.setCell ⟨wr.heap.size, 4, none⟩ (.slice (some ⟨wr.heap.size + 1, 0, none⟩) pl.length (pl.length + 1)) = W5 at hbr5 KB5 HL5 ⊢
      have hs5 : wr.heap.size + 1 < W5.heap.size := HL5.out.lt
      have hI5 := hI.out.below hbr5.out (Nat.le_refl _)
      have HR5 := Lib.hid (hR.out.below hbr5.out (Nat.le_refl _))
      have HB5 := Lib.hid (hB.out.trans (hbr5.out.mono hsr))
      obtain ⟨k0, k1, k2, k3, k4, _, _, _, _, f4⟩ := blk5_at KB5.out
      obtain ⟨bi, bt, bn, bm⟩ := HBI.out
      have hGH : G < H := hlt2
      have hput := keepPut_any G s hok.out v pi pt pn pm bi bt bn bm (some ⟨wr.heap.size + 1, 0, none⟩) pl pl.length (pl.length + 1) rfl W5 hI5 (HL5.out.rd.more (by omega)) hll (fun ad2 had2 hn e => by
        injection had2 with had2
        subst had2
        have e' : wr.heap.size + 1 = G := e
        omega)
      unfold pcV at hput
      have HPUT := Lib.hid hput
      have HVL : Hid (∀ q, v.ownBlock = some q → G < q ∧ q < wr.heap.size) := Lib.hid fun q hq => by have := Own.lt hI.out.2 q hq; omega
      have HYL : Hid (∀ q, vy.ownBlock = some q → H < q ∧ q < wr.heap.size) := Lib.hid fun q hq => by have := Own.lt hR.out.2 q hq; omega
      clear hput hI5 bi bt bn bm hI hR hB
      go_wp2_with fail
      refine HPUT.out.mono ?_
      clear HPUT k0 k1 k2 k3 k4 f4
      rintro e w6 ⟨V, v1, rfl, hV, hI6, hbut, hnx, hz1, hz2⟩
      obtain ⟨eb, heb⟩ : ∃ x, endB s pi pt pn pm pl = x := ⟨_, rfl⟩
      obtain ⟨er, her⟩ : ∃ x, putE s pi pt pn pm pl = x := ⟨_, rfl⟩
      rw [heb] at hV hz1 hz2 ⊢
      rw [her]
      obtain ⟨I, hII⟩ : ∃ x, zI eb (oI (putB s pn pl)) = x := ⟨_, rfl⟩
      obtain ⟨T, hTT⟩ : ∃ x, zI eb (oT (putB s pn pl)) = x := ⟨_, rfl⟩
      obtain ⟨Z, hZZ⟩ : ∃ x, zL eb (oZ (putB s pn pl)) = x := ⟨_, rfl⟩
      obtain ⟨D, hDD⟩ : ∃ x, zL eb (oD (putB s pn pl)) = x := ⟨_, rfl⟩
      rw [hII, hTT, hZZ, hDD] at hV
      have HEQ := Lib.hid (And.intro heb (And.intro her (And.intro hII (And.intro hTT (And.intro hZZ hDD)))))
      clear heb her hII hTT hZZ hDD
      obtain ⟨vx, vyy, rfl, hvx, hvy, hvxy⟩ := hV
      have HSZL : Hid (Z.length ≤ 4611686018427387904) := Lib.hid (by
        rw [← HEQ.out.2.2.2.2.1]
        have := oZ_len (putB s pn pl)
        unfold zL
        split
        · omega
        · simp)
      have HZX : Hid (∀ q, v1.ownBlock = some q → vx.ownBlock ≠ some q ∧ vyy.ownBlock ≠ some q) := Lib.hid fun q hq => by
        cases heb2 : eb with
        | true => rw [hz1 heb2] at hq; simp [Value.ownBlock] at hq
        | false =>
          have h := hz2 heb2
          simp only [Value.agg.injEq, Array.mk.injEq, List.cons.injEq] at h
          rw [h.2.2.1, h.2.2.2.1]
          simp [Value.ownBlock]
      obtain ⟨Ax, cx, rfl, hcx, hcx2, -⟩ := is_shape hvx
      obtain ⟨Ay, cy, rfl, hcy, hcy2, -⟩ := bs_shape hvy
      have hs6 : W5.heap.size ≤ w6.heap.size := hbut.size
      have hb7 : Below w6.heap.size w6 (w6.alloc (.cells #[.int .i64 I, .int .i64 T, .slice Ax Z.length cx, .slice Ay D.length cy] 59)) := (Below.refl _ w6).alloc (Nat.le_refl _) _
      have KS7 := Lib.hid (Blk.new w6 59 #[.int .i64 I, .int .i64 T, .slice Ax Z.length cx, .slice Ay D.length cy])
      have HSZ7 := Lib.hid (show (w6.alloc (.cells #[.int .i64 I, .int .i64 T, .slice Ax Z.length cx, .slice Ay D.length cy] 59)).heap.size = w6.heap.size + 1 by simp)
      have HI7 := Lib.hid (hI6.below hb7 (Nat.le_refl _))
      have HX7 := Lib.hid (Own.below hvx hb7 (Nat.le_refl _))
      have HY7 := Lib.hid (Own.below hvy hb7 (Nat.le_refl _))
      have HKP57 := Lib.hid ((Kp.of_but hbut (N := W5.heap.size) (bad := fun q => q = G ∨ v.ownBlock = some q) (Nat.le_refl _) (fun q hq => .inl (by simpa [ptrV, Value.ownBlock, eq_comm] using hq)) (fun q hq => .inr hq)).trans (Kp.below hb7 hs6))
      have HB7 := Lib.hid ((HB5.out.trans (hbut.below (base := w.heap.size) (by omega) (fun q hq => by have h : G = q := (by simpa [ptrV, Value.ownBlock] using hq); omega) (fun q hq => by have := HVL.out q hq; omega))).trans (hb7.mono (by omega)))
      have HXL : Hid (∀ q, (Value.slice Ax Z.length cx).ownBlock = some q → W5.heap.size ≤ q ∧ q < w6.heap.size) := Lib.hid (Own.lt hvx)
      have HYYL : Hid (∀ q, (Value.slice Ay D.length cy).ownBlock = some q → W5.heap.size ≤ q ∧ q < w6.heap.size) := Lib.hid (Own.lt hvy)
      have HV1L : Hid (∀ q, v1.ownBlock = some q → G < q ∧ q < w6.heap.size) := Lib.hid fun q hq => by have := Own.lt hI6.2 q hq; omega
      have HNX := Lib.hid hnx
      have HXY := Lib.hid hvxy
      clear hb7 hvx hvy hI6 hbut hnx hz1 hz2 hvxy
      obtain ⟨a0, a1, a2, a3, a4⟩ := HAL.out _ HB7.out
      go_upto_region 12 with fail
      generalize w6.alloc (.cells #[.int .i64 I, .int .i64 T, .slice Ax Z.length cx, .slice Ay D.length cy] 59) = W7 at KS7 HSZ7 HI7 HX7 HY7 HKP57 HB7 a0 a1 a2 a3 a4 ⊢
      have hs7 : w6.heap.size + 1 ≤ W7.heap.size := Nat.le_of_eq HSZ7.out.symm
      clear HSZ7
      have hHN : H < W5.heap.size := by omega
      have hR7 : RInbAt W7 H s vy := HR5.out.kp HKP57.out hHN (by
          intro h
          rcases h with h | h
          · omega
          · exact hap.out.2 h) (fun q hq => ⟨by have := HYL.out q hq; omega, by
          intro h
          rcases h with h | h
          · have := HYL.out q hq; omega
          · exact hap.out.1 q h hq⟩)
      obtain ⟨bi, bt, bn, bm⟩ := HBI.out
      have hrput := keepRPut_any H s hok.out vy pi pt pn pm bn bm pA pl pl.length pc rfl W7 hR7 ((H8.out.rd.below HB7.out).more HB7.out.size) hll (fun ad2 had2 hn e => by
        obtain ⟨ad3, had3, hb3, -⟩ := H8.out.rd (by rw [cells_length]; exact hn)
        rw [had2] at had3
        injection had3 with had3
        subst had3
        omega)
      unfold pcV at hrput
      have HRPUT := Lib.hid hrput
      clear hrput hR7 bi bt bn bm
      go_wp2_with fail
      refine HRPUT.out.mono ?_
      clear HRPUT
      rintro e w8 ⟨V', vy1, rfl, hV, hR8, hbut, hnx, hz1, hz2⟩
      obtain ⟨e1, e2, e3, e4, e5, e6⟩ := HEQ.out
      rw [e1] at hV hz1 hz2
      rw [e3, e4, e5, e6] at hV
      rw [e1, e2]
      clear e1 e2 e3 e4 e5 e6
      obtain ⟨vx', vyy', rfl, hvx, hvy, hvxy⟩ := hV
      obtain ⟨Bx, dx, rfl, hdx, hdx2, -⟩ := is_shape hvx
      obtain ⟨By, dy, rfl, hdy, hdy2, -⟩ := bs_shape hvy
      have hs8 : W7.heap.size ≤ w8.heap.size := hbut.size
      have hb9 : Below w8.heap.size w8 (w8.alloc (.cells #[.int .i64 I, .int .i64 T, .slice Bx Z.length dx, .slice By D.length dy] 59)) := (Below.refl _ w8).alloc (Nat.le_refl _) _
      have KT9 := Lib.hid (Blk.new w8 59 #[.int .i64 I, .int .i64 T, .slice Bx Z.length dx, .slice By D.length dy])
      have HSZ9 := Lib.hid (show (w8.alloc (.cells #[.int .i64 I, .int .i64 T, .slice Bx Z.length dx, .slice By D.length dy] 59)).heap.size = w8.heap.size + 1 by simp)
      have HR9 := Lib.hid (hR8.below hb9 (Nat.le_refl _))
      have HX9' := Lib.hid (own_rd (Own.below hvx hb9 (Nat.le_refl _)))
      have HY9' := Lib.hid (own_rd (Own.below hvy hb9 (Nat.le_refl _)))
      have hkp79 : Kp W7.heap.size (fun q => q = H ∨ vy.ownBlock = some q) W7 (w8.alloc (.cells #[.int .i64 I, .int .i64 T, .slice Bx Z.length dx, .slice By D.length dy] 59)) := (Kp.of_but hbut (N := W7.heap.size) (bad := fun q => q = H ∨ vy.ownBlock = some q) (Nat.le_refl _) (fun q hq => .inl (by simpa [ptrV, Value.ownBlock, eq_comm] using hq)) (fun q hq => .inr hq)).trans (Kp.below hb9 hs8)
      have hyo : ∀ q, W5.heap.size ≤ q → ¬ (q = H ∨ vy.ownBlock = some q) := fun q hq h => by
        rcases h with h | h
        · omega
        · have := HYL.out q h; omega
      have HX9 := Lib.hid (Own.kp hkp79 HX7.out (fun q hq => ⟨by have := HXL.out q hq; omega, hyo q (HXL.out q hq).1⟩))
      have HY9 := Lib.hid (Own.kp hkp79 HY7.out (fun q hq => ⟨by have := HYYL.out q hq; omega, hyo q (HYYL.out q hq).1⟩))
      have KS9 := Lib.hid (Blk.kp hkp79 KS7.out (by omega) (hyo _ (by omega)))
      have HI9 := Lib.hid (HI7.out.kp hkp79 (by omega) (by
          intro h
          rcases h with h | h
          · omega
          · have := HYL.out G h; omega) (fun q hq => ⟨by have := HV1L.out q hq; omega, by
          intro h
          rcases HNX.out q hq with h2 | h2
          · rcases h with h | h
            · subst h; exact hap.out.2 h2
            · exact hap.out.1 q h2 h
          · exact hyo q h2 h⟩))
      have hk59 := (HKP57.out.mono (bad' := fun q => q = G ∨ v.ownBlock = some q ∨ q = H ∨ vy.ownBlock = some q) (fun q h => h.elim .inl (fun h => .inr (.inl h))) (Nat.le_refl _)).trans (hkp79.mono (bad' := fun q => q = G ∨ v.ownBlock = some q ∨ q = H ∨ vy.ownBlock = some q) (fun q h => .inr (.inr h)) (by omega))
      have hno : ∀ q, wr.heap.size ≤ q → ¬ (q = G ∨ v.ownBlock = some q ∨ q = H ∨ vy.ownBlock = some q) := fun q hq h => by
        rcases h with h | h | h | h
        · omega
        · have := HVL.out q h; omega
        · omega
        · have := HYL.out q h; omega
      have KB9 := Lib.hid (Blk.kp hk59 KB5.out (by omega) (hno _ (Nat.le_refl _)))
      have HL9 := Lib.hid (show LentAt _ _ _ from Blk.kp hk59 HL5.out (by omega) (hno _ (by omega)))
      have HB9 := Lib.hid ((HB7.out.trans (hbut.below (base := w.heap.size) (by omega) (fun q hq => by have h : H = q := (by simpa [ptrV, Value.ownBlock] using hq); omega) (fun q hq => by have := HYL.out q hq; omega))).trans (hb9.mono (by omega)))
      have HXL' : Hid (∀ q, vy1.ownBlock = some q → (H < q ∧ q < w8.heap.size) ∧ (vy.ownBlock = some q ∨ W7.heap.size ≤ q)) := Lib.hid fun q hq => ⟨by have := Own.lt hR8.2 q hq; omega, hnx q hq⟩
      have HSB : Hid (∀ q, (Value.slice Bx Z.length dx).ownBlock = some q ∨ (Value.slice By D.length dy).ownBlock = some q → W7.heap.size ≤ q) := Lib.hid fun q hq => by
        rcases hq with h | h
        · exact (Own.lt hvx q h).1
        · exact (Own.lt hvy q h).1
      clear hb9 hvx hvy hR8 hbut hnx hz1 hz2 hvxy hkp79 hyo hk59 hno KS7 HI7 HX7 HY7 HKP57 HB7 KB5 HL5 HR5 a0 a1 a2 a3 a4
      obtain ⟨a0, a1, a2, a3, a4⟩ := HAL.out _ HB9.out
      go_upto_region 13 with fail
      generalize w8.alloc (.cells #[.int .i64 I, .int .i64 T, .slice Bx Z.length dx, .slice By D.length dy] 59) = W9 at KT9 HSZ9 HR9 HX9' HY9' HX9 HY9 KS9 HI9 KB9 HL9 HB9 a0 a1 a2 a3 a4 ⊢
      have hs9 := HSZ9.out
      clear HSZ9
      obtain ⟨k0, k1, k2, k3, k4, _, _, _, _, f4⟩ := blk5_at KB9.out
      have hrd9 := (H8.out.rd.below HB9.out).more HB9.out.size
      go_quiet ((go_at_call 22; exact Calls.quiet_of_same (kept_q _ _ _ _ _ _ HL9.out hrd9 hll _)))
      clear hrd9 a0 a1 a2 a3 a4 k0 k1 k2 k3 k4 f4
      have KB10 := Lib.hid (show Blk (W9.drewN nq) _ _ _ from KB9.out)
      have HL10 := Lib.hid (show LentAt (W9.drewN nq) _ _ from HL9.out)
      have HR10 := Lib.hid (show RInbAt (W9.drewN nq) _ _ _ from HR9.out)
      have HI10 := Lib.hid (show InbAt (W9.drewN nq) _ _ _ from HI9.out)
      have HX10 := Lib.hid (show Is (W9.drewN nq) _ _ _ from HX9.out)
      have HY10 := Lib.hid (show Bs (W9.drewN nq) _ _ _ from HY9.out)
      have HX10' := Lib.hid (show Rd (W9.drewN nq) (W9.drewN nq).heap.size _ _ from HX9'.out)
      have HY10' := Lib.hid (show Rd (W9.drewN nq) (W9.drewN nq).heap.size _ _ from HY9'.out)
      have KS10 := Lib.hid (show Blk (W9.drewN nq) _ _ _ from KS9.out)
      have KT10 := Lib.hid (show Blk (W9.drewN nq) _ _ _ from KT9)
      have HB10 := Lib.hid (below_drewN HB9.out nq)
      have hs10 : w8.heap.size + 1 ≤ (W9.drewN nq).heap.size := Nat.le_of_eq hs9.symm
      generalize W9.drewN nq = W10 at KB10 HL10 HR10 HI10 HX10 HY10 HX10' HY10' KS10 KT10 HB10 hs10 ⊢
      clear KB9 HL9 HR9 HI9 HX9 HY9 HX9' HY9' KS9 KT9 HB9 hs9
      obtain ⟨k0, k1, k2, k3, k4, _, _, _, _, f4⟩ := blk5_at KB10.out
      have hb11 : Below W10.heap.size W10 (W10.alloc (.cells #[(.slice (some ⟨wr.heap.size + 1, 0, none⟩) pl.length (pl.length + 1))] 22)) := (Below.refl _ W10).alloc (Nat.le_refl _) _
      have hown := Lib.hid (owned_any (some ⟨W10.heap.size, 0, none⟩) [(.slice (some ⟨wr.heap.size + 1, 0, none⟩) pl.length (pl.length + 1))] 1 1 (W10.heap.size + 1) (wr.heap.size + 1) rfl (W10.alloc (.cells #[(.slice (some ⟨wr.heap.size + 1, 0, none⟩) pl.length (pl.length + 1))] 22))
        (fun _ => ⟨_, rfl, by show W10.heap.size < _; omega, fun j u hj => by rw [add_zero_lit]; exact ((Blk.new W10 22 #[(.slice (some ⟨wr.heap.size + 1, 0, none⟩) pl.length (pl.length + 1))]).cell j).trans (by simpa using hj)⟩)
        (fun v hv => by
          simp only [List.mem_cons, List.not_mem_nil, or_false] at hv
          subst hv
          exact (RowOk.of_lent HL10.out (Nat.le_refl _) hll).alloc _)
        (by intro i j hi hj hij; simp at hi hj; omega)
        (fun ad2 had2 v hv h => by
          simp only [List.mem_cons, List.not_mem_nil, or_false] at hv
          subst hv
          injection had2 with had2
          subst had2
          have h2 : wr.heap.size + 1 = W10.heap.size := by simpa [Value.ownBlock] using h
          omega) (by simp))
      go_wp2_with fail
      refine hown.out.mono ?_
      clear hown k0 k1 k2 k3 k4 f4
      rintro e w12 ⟨rfl, hot, -⟩
      have hk12 : Kp W10.heap.size (fun q => q = wr.heap.size + 1) W10 w12 := (Kp.below hb11 (Nat.le_refl _)).trans (Kp.of_others hot (fun v hv q hq => by
        simp only [List.mem_cons, List.not_mem_nil, or_false] at hv
        subst hv
        have h2 : wr.heap.size + 1 = q := by simpa [Value.ownBlock] using hq
        exact h2.symm))
      have HB12 := Lib.hid ((HB10.out.trans (hb11.mono (by omega))).trans (hot.below (base := w.heap.size) (fun v hv q hq => by
        simp only [List.mem_cons, List.not_mem_nil, or_false] at hv
        subst hv
        have h2 : wr.heap.size + 1 = q := by simpa [Value.ownBlock] using hq
        omega)))
      have hs12 : w8.heap.size + 1 ≤ w12.heap.size := by have := hk12.size; omega
      have HR12 := Lib.hid (HR10.out.kp hk12 (by omega) (by omega) (fun q hq => ⟨by have := HXL'.out q hq; omega, by
        intro h
        rcases (HXL'.out q hq).2 with h2 | h2
        · have := HYL.out q h2
          omega
        · omega⟩))
      have HI12 := Lib.hid (HI10.out.kp hk12 (by omega) (by omega) (fun q hq => ⟨by have := HV1L.out q hq; omega, by
        intro h
        rcases HNX.out q hq with h2 | h2
        · have := HVL.out q h2
          omega
        · omega⟩))
      have HX12 := Lib.hid (Own.kp hk12 HX10.out (fun q hq => ⟨by have := HXL.out q hq; omega, by have := HXL.out q hq; omega⟩))
      have HY12 := Lib.hid (Own.kp hk12 HY10.out (fun q hq => ⟨by have := HYYL.out q hq; omega, by have := HYYL.out q hq; omega⟩))
      have KS12 := Lib.hid (Blk.kp hk12 KS10.out (by omega) (by omega))
      have KT12 := Lib.hid (Blk.kp hk12 KT10.out (by omega) (by omega))
      have HRX : Hid (Rd w12 w12.heap.size Bx (Z.map (Value.int .i64))) := Lib.hid fun hn => by
        obtain ⟨ad2, had2, hb2, hc⟩ := HX10'.out hn
        refine ⟨ad2, had2, by have := hk12.size; omega, fun j u hj => ?_⟩
        have hb3 : W7.heap.size ≤ ad2.block := HSB.out _ (.inl (by rw [had2]; rfl))
        have := hc j u hj
        rw [← this]
        exact World.cell?_of_block (w := W10) (by rw [block_of_add]; exact hk12.block _ (by omega) (by omega))
      have HRY : Hid (Rd w12 w12.heap.size By (cells D)) := Lib.hid fun hn => by
        obtain ⟨ad2, had2, hb2, hc⟩ := HY10'.out hn
        refine ⟨ad2, had2, by have := hk12.size; omega, fun j u hj => ?_⟩
        have hb3 : W7.heap.size ≤ ad2.block := HSB.out _ (.inr (by rw [had2]; rfl))
        have := hc j u hj
        rw [← this]
        exact World.cell?_of_block (w := W10) (by rw [block_of_add]; exact hk12.block _ (by omega) (by omega))
      have hzl : Z.length ≤ 4611686018427387904 := by have := HSZL.out; omega
      have hsame := Lib.hid (snapSame_any I T Z D Ax Ay Bx By Z.length cx D.length cy Z.length dx D.length dy w12.heap.size rfl rfl rfl rfl w12 (Nat.le_refl _) (own_rd HX12.out) (own_rd HY12.out) HRX.out HRY.out hzl)
      unfold snapV at hsame
      obtain ⟨k0, k1, k2, k3, _, _, _, _⟩ := blk4_cells KS12.out
      obtain ⟨q0, q1, q2, q3, _, _, _, _⟩ := blk4_cells KT12.out
      clear hk12 hot hb11 HRX HRY HX10 HY10 HX10' HY10' KS10 KT10 HR10 HI10 HL10 KB10 HB10
      go_wp2_with fail
      refine hsame.out.mono ?_
      clear hsame k0 k1 k2 k3 q0 q1 q2 q3
      rintro e w13 ⟨rfl, hb13⟩
      have hs13 : w12.heap.size ≤ w13.heap.size := hb13.size
      have HR13 := Lib.hid (HR12.out.below hb13 (Nat.le_refl _))
      have HI13 := Lib.hid (HI12.out.below hb13 (Nat.le_refl _))
      have HX13 := Own.below HX12.out hb13 (Nat.le_refl _)
      have HY13 := Own.below HY12.out hb13 (Nat.le_refl _)
      have KS13 := Lib.hid (KS12.out.below hb13 KS12.out.lt)
      have HB13 := Lib.hid (HB12.out.trans (hb13.mono (by omega)))
      obtain ⟨Ax', cx', cur, hv', hcc, hbl, -⟩ := IBlk.of_own HX13
      injection hv' with e1 e2 e3
      subst e1; subst e3
      have hover := Lib.hid (over_any I T Ax Z.length cx cur Ay D.length cy w13 W5.heap.size hbl hcx hcc (RowOk.of_own HY13) HXY.out)
      obtain ⟨k0, k1, k2, k3, _, _, _, _⟩ := blk4_cells KS13.out
      clear e2 hb13 HX13 HY13 hbl hcc HR12 HI12 HX12 HY12 KS12 KT12 HB12
      go_wp2_with fail
      refine hover.out.mono ?_
      clear hover k0 k1 k2 k3
      rintro e w14 ⟨rfl, hbut⟩
      have hk14 : Kp w13.heap.size (fun q => (Value.slice Ax Z.length cx).ownBlock = some q ∨ (Value.slice Ay D.length cy).ownBlock = some q) w13 w14 := Kp.of_but hbut (Nat.le_refl _) (fun q hq => .inl hq) (fun q hq => .inr hq)
      have hxr : ∀ q, ((Value.slice Ax Z.length cx).ownBlock = some q ∨ (Value.slice Ay D.length cy).ownBlock = some q) → W5.heap.size ≤ q ∧ q < w6.heap.size := fun q hq => by
        rcases hq with h | h
        · exact HXL.out q h
        · exact HYYL.out q h
      have HI14 := Lib.hid (HI13.out.kp hk14 (by omega) (fun h => by have := hxr _ h; omega) (fun q hq => ⟨by have := HV1L.out q hq; omega, fun h => by
        rcases h with h | h
        · exact (HZX.out q hq).1 h
        · exact (HZX.out q hq).2 h⟩))
      have HR14 := Lib.hid (HR13.out.kp hk14 (by omega) (fun h => by have := hxr _ h; omega) (fun q hq => ⟨by have := HXL'.out q hq; omega, fun h => by
        have := hxr _ h
        rcases (HXL'.out q hq).2 with h2 | h2
        · have := HYL.out q h2
          omega
        · omega⟩))
      have HB14 := Lib.hid (HB13.out.trans (hbut.below (base := w.heap.size) (by omega) (fun q hq => by have := HXL.out q hq; omega) (fun q hq => by have := HYYL.out q hq; omega)))
      have hs14 : w13.heap.size ≤ w14.heap.size := hk14.size
      clear hk14 hbut hxr HI13 HR13 KS13 HB13
      have hwant := Lib.hid (keepWant_any G (putS s pi pt pn pm pl) v1 w14 HI14.out)
      go_wp2_with fail
      refine hwant.out.mono ?_
      clear hwant
      rintro e w15 ⟨rfl, hb15⟩
      have HI15 := Lib.hid (HI14.out.below hb15 (Nat.le_refl _))
      have HR15 := Lib.hid (HR14.out.below hb15 (Nat.le_refl _))
      have HB15 := Lib.hid (HB14.out.trans (hb15.mono (by omega)))
      have hs15 : w14.heap.size ≤ w15.heap.size := hb15.size
      clear hb15 HI14 HR14 HB14
      have hwant := Lib.hid (rWant_any H (putS s pi pt pn pm pl) (putS_ok hok.out pi pt pn pm pl) vy1 w15 HR15.out)
      go_wp2_with fail
      refine hwant.out.mono ?_
      clear hwant
      rintro e w16 ⟨rfl, hb16⟩
      have HI16 := Lib.hid (HI15.out.below hb16 (Nat.le_refl _))
      have HR16 := Lib.hid (HR15.out.below hb16 (Nat.le_refl _))
      have HB16 := Lib.hid (HB15.out.trans (hb16.mono (by omega)))
      have hs16 : w15.heap.size ≤ w16.heap.size := hb16.size
      have HOK := Lib.hid (putS_ok hok.out pi pt pn pm pl)
      have HAP : Hid ((∀ q, v1.ownBlock = some q → vy1.ownBlock ≠ some q) ∧ v1.ownBlock ≠ some H) := Lib.hid ⟨fun q hq h => by
        rcases (HXL'.out q h).2 with h2 | h2
        · rcases HNX.out q hq with h3 | h3
          · exact hap.out.1 q h3 h2
          · have := HYL.out q h2
            omega
        · have := HV1L.out q hq
          omega, fun h => by
        rcases HNX.out H h with h3 | h3
        · exact hap.out.2 h3
        · omega⟩
      clear hb16 HI15 HR15 HB15
      generalize putS s pi pt pn pm pl = s1 at HI16 HR16 HOK ⊢
      go_wp2
      go_roundw
      case rel => exact ⟨k + 1, s1, v1, vy1, by omega, by go_num, HOK, HI16, HR16, HAP, HB16, by omega⟩
      case measure => simp [intOf]; omega
    · have hfin : Below w.heap.size w wr := hB.out
      rcases Nat.lt_or_ge k ps.length with h4 | h4
      · have h5 : ¬ (k : Int) < 200 := by omega
        have h6 : (k : Int) < ps.length := by omega
        clear hlt
        go_wp2
        go_ret
        exact ⟨rfl, hfin⟩
      · have h6 : ¬ (k : Int) < ps.length := by omega
        clear hlt
        go_wp2
        go_ret
        exact ⟨rfl, hfin⟩
end Go.Proofs.Ytelplpajpfkfiaa
