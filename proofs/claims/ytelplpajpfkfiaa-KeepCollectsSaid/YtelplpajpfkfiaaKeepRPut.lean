/- The reference's inbox takes a piece ((*pavaneref23.Inbox).Put). Condition: the inbox is a call's own, the piece can be read. -/
import Derived.Test.YtelplpajpfkfiaaKeepPut
set_option linter.unusedVariables false
namespace Go.Proofs.Ytelplpajpfkfiaa
open Go.RowKit Oct

def rn (s : Inb) : Int := if s.n = 0 then 0 else s.n - 1
/-- The reference's inbox in memory. -/
def RInbAt (w : World) (g : Nat) (s : Inb) (v : Value) : Prop := Blk w g 116 #[.int .i64 s.i, .int .i64 s.t, .int .i64 (rn s), .int .i64 s.m, .slice none 0 0, v] ∧ Bs w (g + 1) v s.b
/-- What the reference's Put hands back, and where the inbox is then. -/
def RPutPost (w : World) (g : Nat) (v : Value) (s : Inb) (i t n m : Int) (l : List UInt8) (e : Ending) (w' : World) : Prop :=
  ∃ V v', e = .returned (.tuple #[V, .bool (endB s i t n m l), .int .i64 (putE s i t n m l)]) ∧ SnapR w' w.heap.size V (zI (endB s i t n m l) (oI (putB s n l))) (zI (endB s i t n m l) (oT (putB s n l))) (zL (endB s i t n m l) (oZ (putB s n l))) (zL (endB s i t n m l) (oD (putB s n l))) ∧
    RInbAt w' g (putS s i t n m l) v' ∧ But (ptrV g) v w w' ∧ Next v v' w.heap.size ∧ (endB s i t n m l = true → v' = .slice none 0 0) ∧ (endB s i t n m l = false → V = .agg #[.int .i64 0, .int .i64 0, .slice none 0 0, .slice none 0 0])
theorem RPutPost.mk' {w w' : World} {g : Nat} {v v' V : Value} {s : Inb} {i t n m : Int} {l : List UInt8} {b : Bool} {er : Int} {I T : Int} {Z : List Int} {D : List UInt8} {s' : Inb}
    (h1 : endB s i t n m l = b) (h2 : putE s i t n m l = er) (h3 : putS s i t n m l = s') (h4 : zI b (oI (putB s n l)) = I) (h5 : zI b (oT (putB s n l)) = T) (h6 : zL b (oZ (putB s n l)) = Z) (h7 : zL b (oD (putB s n l)) = D)
    (hS : SnapR w' w.heap.size V I T Z D) (hI : RInbAt w' g s' v') (hB : But (ptrV g) v w w') (hN : Next v v' w.heap.size) (hZ : b = true → v' = .slice none 0 0) (hZ2 : b = false → V = .agg #[.int .i64 0, .int .i64 0, .slice none 0 0, .slice none 0 0]) : RPutPost w g v s i t n m l (.returned (.tuple #[V, .bool b, .int .i64 er])) w' := by
  subst h1; subst h2; subst h3; subst h4; subst h5; subst h6; subst h7
  exact ⟨V, v', rfl, hS, hI, hB, hN, hZ, hZ2⟩
theorem RPutPost.mk0 {w w' : World} {g : Nat} {v v' : Value} {s : Inb} {i t n m : Int} {l : List UInt8} {er : Int} {s' : Inb}
    (h1 : endB s i t n m l = false) (h2 : putE s i t n m l = er) (h3 : putS s i t n m l = s')
    (hI : RInbAt w' g s' v') (hB : But (ptrV g) v w w') (hN : Next v v' w.heap.size) : RPutPost w g v s i t n m l (.returned (.tuple #[.agg #[.int .i64 0, .int .i64 0, .slice none 0 0, .slice none 0 0], .bool false, .int .i64 er])) w' :=
  RPutPost.mk' h1 h2 h3 (I := 0) (T := 0) (Z := []) (D := []) (by simp [zI]) (by simp [zI]) (by simp [zL]) (by simp [zL]) (snapR_zero _ _) hI hB hN (fun h => by cases h) (fun _ => rfl)
theorem blk6_at {w : World} {g : Nat} {t : TypeId} {a b c d e f : Value} (h : Blk w g t #[a, b, c, d, e, f]) :
    w.cell? ⟨g, 0, none⟩ = some a ∧ w.cell? ⟨g, 1, none⟩ = some b ∧ w.cell? ⟨g, 2, none⟩ = some c ∧ w.cell? ⟨g, 3, none⟩ = some d ∧ w.cell? ⟨g, 4, none⟩ = some e ∧ w.cell? ⟨g, 5, none⟩ = some f ∧ w.frozen? ⟨g, 0, none⟩ = false ∧ w.frozen? ⟨g, 1, none⟩ = false ∧ w.frozen? ⟨g, 2, none⟩ = false ∧ w.frozen? ⟨g, 3, none⟩ = false ∧ w.frozen? ⟨g, 4, none⟩ = false ∧ w.frozen? ⟨g, 5, none⟩ = false :=
  ⟨h.cell 0, h.cell 1, h.cell 2, h.cell 3, h.cell 4, h.cell 5, h.frozen 0, h.frozen 1, h.frozen 2, h.frozen 3, h.frozen 4, h.frozen 5⟩
theorem blk_z56 {w : World} {g : Nat} {T : TypeId} {p q r u v x : Value} (h : Blk w g T #[p, q, r, u, v, x]) (a b c d e : Value) : Blk (((((w.setCell ⟨g, 0, none⟩ a).setCell ⟨g, 1, none⟩ b).setCell ⟨g, 2, none⟩ c).setCell ⟨g, 3, none⟩ d).setCell ⟨g, 4, none⟩ e) g T #[a, b, c, d, e, x] :=
  ((((h.set_ 0 a).set_ 1 b).set_ 2 c).set_ 3 d).set_ 4 e


set_option maxHeartbeats 4000000 in
set_option maxRecDepth 100000 in
theorem rput_bad (g : Nat) (s : Inb) (hs : s.ok) (v : Value) (i t n m : Int) (hn64 : -9223372036854775808 ≤ n ∧ n ≤ 9223372036854775807) (hm64 : -9223372036854775808 ≤ m ∧ m ≤ 9223372036854775807)
    (A : Option Addr) (l : List UInt8) (k c : Nat) (hk : k = l.length) (w : World) (hI : RInbAt w g s v) (hr : Rd w w.heap.size A (cells l)) (hl : l.length ≤ 140737488351232) (hAg : ∀ ad, A = some ad → 0 < l.length → ad.block ≠ g) (hbad : pcB i t n m l.length = false) :
    Calls Try.prog 62 #[.pointer (some ⟨g, 0, none⟩), pcV i t n m A k c] w (RPutPost w g v s i t n m l) := by
  subst hk
  obtain ⟨A0, c0, rfl, hv1, hv2, -⟩ := bs_shape hI.2
  have hmay := Lib.hid (mayPiece_any i t n m A l.length c hm64 ((w.alloc (.cells #[.int .i64 i, .int .i64 t, .int .i64 n, .int .i64 m, .slice A l.length c] 71)).alloc (.cells #[.int .i64 0, .int .i64 0, .slice none 0 0, .slice none 0 0] 59)))
  unfold pcV at hmay ⊢
  have hgl : g < w.heap.size := hI.1.lt
  have hs1 : (w.alloc (.cells #[.int .i64 i, .int .i64 t, .int .i64 n, .int .i64 m, .slice A l.length c] 71)).heap.size = w.heap.size + 1 := by simp
  have hs2 : ((w.alloc (.cells #[.int .i64 i, .int .i64 t, .int .i64 n, .int .i64 m, .slice A l.length c] 71)).alloc (.cells #[.int .i64 0, .int .i64 0, .slice none 0 0, .slice none 0 0] 59)).heap.size = w.heap.size + 2 := by simp
  have KP := (Blk.new w 71 #[.int .i64 i, .int .i64 t, .int .i64 n, .int .i64 m, .slice A l.length c]).alloc (.cells #[.int .i64 0, .int .i64 0, .slice none 0 0, .slice none 0 0] 59)
  have KZ := Blk.new (w.alloc (.cells #[.int .i64 i, .int .i64 t, .int .i64 n, .int .i64 m, .slice A l.length c] 71)) 59 #[.int .i64 0, .int .i64 0, .slice none 0 0, .slice none 0 0]
  rw [hs1] at KZ
  obtain ⟨p0, p1, p2, p3, p4, _, _, _, _, _⟩ := blk5_at KP
  have hb0 := Lib.hid (((Below.refl w.heap.size w).alloc (Nat.le_refl _) (.cells #[.int .i64 i, .int .i64 t, .int .i64 n, .int .i64 m, .slice A l.length c] 71)).alloc (by rw [hs1]; omega) (.cells #[.int .i64 0, .int .i64 0, .slice none 0 0, .slice none 0 0] 59))
  have HZ := Lib.hid hs2
  have KP := Lib.hid KP
  have KZ := Lib.hid KZ
  have HI := Lib.hid hI
  clear hs1 hs2 hI
  go_enter Try.func62, Try.ntmps62
  go_wp2_with fail
  refine hmay.out.mono ?_
  clear hmay
  rintro e w1 ⟨rfl, hb1⟩
  generalize hW0 : (w.alloc (.cells #[.int .i64 i, .int .i64 t, .int .i64 n, .int .i64 m, .slice A l.length c] 71)).alloc (.cells #[.int .i64 0, .int .i64 0, .slice none 0 0, .slice none 0 0] 59) = w0 at hb0 HZ KP KZ hb1 ⊢
  clear hW0 p0 p1 p2 p3 p4
  have hs1 : w.heap.size + 2 ≤ w1.heap.size := by have := hb1.size; rw [HZ.out] at this; exact this
  replace KP := Lib.hid (KP.out.below hb1 (by rw [HZ.out]; omega))
  replace KZ := Lib.hid (KZ.out.below hb1 (by rw [HZ.out]; omega))
  have hb01 := Lib.hid (hb0.out.trans (hb1.mono (by rw [HZ.out]; omega)))
  clear hb1 hb0 HZ
  rw [hbad]
  obtain ⟨e0, e1, e2, e3, f0, f1, f2, f3⟩ := blk4_cells KZ.out
  have KF := Lib.hid ((((Blk.set_ KZ.out 0 (.int .i64 0)).set_ 1 (.int .i64 0)).set_ 2 (.slice none 0 0)).set_ 3 (.slice none 0 0))
  have hbF := Lib.hid ((((hb01.out.setCell (p := ⟨w.heap.size + 1, 0, none⟩) (by show w.heap.size ≤ w.heap.size + 1; omega) (.int .i64 0)).setCell (p := ⟨w.heap.size + 1, 1, none⟩) (by show w.heap.size ≤ w.heap.size + 1; omega) (.int .i64 0)).setCell (p := ⟨w.heap.size + 1, 2, none⟩) (by show w.heap.size ≤ w.heap.size + 1; omega) (.slice none 0 0)).setCell (p := ⟨w.heap.size + 1, 3, none⟩) (by show w.heap.size ≤ w.heap.size + 1; omega) (.slice none 0 0))
  have HB := Lib.hid hbad
  have HKX := Lib.hid (Blk.below HI.out.1 hbF.out hgl)
  have HHV := Lib.hid (Own.below HI.out.2 hbF.out (Nat.le_refl _))
  have HFIN := Lib.hid (But.then_ (But.refl (ptrV g) (.slice A0 s.b.length c0) w) hbF.out)
  clear hbad KZ
  go_wp2_with fail
  refine bodyPost_ret (results_snap2 (fn := Try.f62) rfl _ _ (w.heap.size + 1) _ _ _ _ rfl KF.out) rfl ?_
  have hok : okB s i t n m l = false := by unfold okB; rw [HB.out]; rfl
  have he : endB s i t n m l = false := by unfold endB; rw [hok]; rfl
  refine RPutPost.mk0 (s' := s) he (by unfold putE; rw [if_pos HB.out]) (by unfold putS; rw [if_pos hok]) ⟨HKX.out, HHV.out⟩ HFIN.out (fun q hq => .inl hq)

set_option maxHeartbeats 4000000 in
set_option maxRecDepth 100000 in
theorem rput_not (g : Nat) (s : Inb) (hs : s.ok) (v : Value) (i t n m : Int) (hn64 : -9223372036854775808 ≤ n ∧ n ≤ 9223372036854775807) (hm64 : -9223372036854775808 ≤ m ∧ m ≤ 9223372036854775807)
    (A : Option Addr) (l : List UInt8) (k c : Nat) (hk : k = l.length) (w : World) (hI : RInbAt w g s v) (hr : Rd w w.heap.size A (cells l)) (hl : l.length ≤ 140737488351232) (hAg : ∀ ad, A = some ad → 0 < l.length → ad.block ≠ g) (hn0 : n ≠ 0) (hok : pcB i t n m l.length = true) (hf : fitB s i t n m = false) :
    Calls Try.prog 62 #[.pointer (some ⟨g, 0, none⟩), pcV i t n m A k c] w (RPutPost w g v s i t n m l) := by
  subst hk
  obtain ⟨A0, c0, rfl, hv1, hv2, -⟩ := bs_shape hI.2
  have hmay := Lib.hid (mayPiece_any i t n m A l.length c hm64 ((w.alloc (.cells #[.int .i64 i, .int .i64 t, .int .i64 n, .int .i64 m, .slice A l.length c] 71)).alloc (.cells #[.int .i64 0, .int .i64 0, .slice none 0 0, .slice none 0 0] 59)))
  unfold pcV at hmay ⊢
  have hgl : g < w.heap.size := hI.1.lt
  have hs1 : (w.alloc (.cells #[.int .i64 i, .int .i64 t, .int .i64 n, .int .i64 m, .slice A l.length c] 71)).heap.size = w.heap.size + 1 := by simp
  have hs2 : ((w.alloc (.cells #[.int .i64 i, .int .i64 t, .int .i64 n, .int .i64 m, .slice A l.length c] 71)).alloc (.cells #[.int .i64 0, .int .i64 0, .slice none 0 0, .slice none 0 0] 59)).heap.size = w.heap.size + 2 := by simp
  have KP := (Blk.new w 71 #[.int .i64 i, .int .i64 t, .int .i64 n, .int .i64 m, .slice A l.length c]).alloc (.cells #[.int .i64 0, .int .i64 0, .slice none 0 0, .slice none 0 0] 59)
  have KZ := Blk.new (w.alloc (.cells #[.int .i64 i, .int .i64 t, .int .i64 n, .int .i64 m, .slice A l.length c] 71)) 59 #[.int .i64 0, .int .i64 0, .slice none 0 0, .slice none 0 0]
  rw [hs1] at KZ
  obtain ⟨p0, p1, p2, p3, p4, _, _, _, _, _⟩ := blk5_at KP
  have hb0 := Lib.hid (((Below.refl w.heap.size w).alloc (Nat.le_refl _) (.cells #[.int .i64 i, .int .i64 t, .int .i64 n, .int .i64 m, .slice A l.length c] 71)).alloc (by rw [hs1]; omega) (.cells #[.int .i64 0, .int .i64 0, .slice none 0 0, .slice none 0 0] 59))
  have HZ := Lib.hid hs2
  have KP := Lib.hid KP
  have KZ := Lib.hid KZ
  have HI := Lib.hid hI
  clear hs1 hs2 hI
  go_enter Try.func62, Try.ntmps62
  go_wp2_with fail
  refine hmay.out.mono ?_
  clear hmay
  rintro e w1 ⟨rfl, hb1⟩
  generalize hW0 : (w.alloc (.cells #[.int .i64 i, .int .i64 t, .int .i64 n, .int .i64 m, .slice A l.length c] 71)).alloc (.cells #[.int .i64 0, .int .i64 0, .slice none 0 0, .slice none 0 0] 59) = w0 at hb0 HZ KP KZ hb1 ⊢
  clear hW0 p0 p1 p2 p3 p4
  have hs1 : w.heap.size + 2 ≤ w1.heap.size := by have := hb1.size; rw [HZ.out] at this; exact this
  replace KP := Lib.hid (KP.out.below hb1 (by rw [HZ.out]; omega))
  replace KZ := Lib.hid (KZ.out.below hb1 (by rw [HZ.out]; omega))
  have hb01 := Lib.hid (hb0.out.trans (hb1.mono (by rw [HZ.out]; omega)))
  clear hb1 hb0 HZ
  rw [hok]
  have hnb1 : 0 < n := by have h2 := pcB_spec.1 hok; omega
  have hnb2 : n ≤ 4096 := by have h2 := pcB_spec.1 hok; omega
  have HOK := Lib.hid hok
  have HN0 := Lib.hid hn0
  have hokb : okB s i t n m l = false := by unfold okB; rw [hf]; simp [hn0]
  have HE : Hid (endB s i t n m l = false ∧ putE s i t n m l = 55 ∧ putS s i t n m l = s) := Lib.hid ⟨by unfold endB; rw [hokb]; rfl, by unfold putE; rw [if_neg (by rw [hok]; simp), if_pos hokb], by unfold putS; rw [if_pos hokb]⟩
  have hcase : s.b.length = 0 ∨ 0 < s.b.length ∧ (rn s ≠ n - 1 ∨ rn s = n - 1 ∧ (s.i ≠ i ∨ s.i = i ∧ (s.t ≠ t ∨ s.t = t ∧ s.m ≠ m))) := by
    by_cases h0 : s.b.length = 0
    · exact .inl h0
    · refine .inr ⟨by omega, ?_⟩
      have hsn : 1 ≤ s.n := by
        rcases hs with rfl | hs
        · exact absurd rfl h0
        · exact hs.2.1
      have hrn : rn s = s.n - 1 := if_neg (by omega)
      unfold fitB at hf
      simp only [Bool.and_eq_false_iff, decide_eq_false_iff_not] at hf
      by_cases h1 : rn s = n - 1
      · refine .inr ⟨h1, ?_⟩
        by_cases h2 : s.i = i
        · refine .inr ⟨h2, ?_⟩
          by_cases h3 : s.t = t
          · refine .inr ⟨h3, fun h4 => ?_⟩
            rcases hf with ((hf | hf) | hf) | hf
            · exact hf h2.symm
            · exact hf h3.symm
            · exact hf h4.symm
            · omega
          · exact .inl h3
        · exact .inl h2
      · exact .inl h1
  have KX := Lib.hid (Blk.below HI.out.1 hb01.out hgl)
  have HHV := Lib.hid (Own.below HI.out.2 hb01.out (Nat.le_refl _))
  clear hok hf hokb hn0 hn64
  obtain ⟨p0, p1, p2, p3, p4, _, _, _, _, _⟩ := blk5_at KP.out
  obtain ⟨r0, r1, r2, r3, r4, r5, _, _, _, _, _, _⟩ := blk6_at KX.out
  obtain ⟨R, hR⟩ : ∃ R, R = rn s := ⟨_, rfl⟩
  obtain ⟨si, hsi⟩ : ∃ x, x = s.i := ⟨_, rfl⟩
  obtain ⟨st, hst⟩ : ∃ x, x = s.t := ⟨_, rfl⟩
  obtain ⟨sm, hsm⟩ : ∃ x, x = s.m := ⟨_, rfl⟩
  obtain ⟨sb, hsb⟩ : ∃ x, x = s.b.length := ⟨_, rfl⟩
  rw [← hR, ← hsi, ← hst, ← hsm, ← hsb] at hcase
  rw [← hR] at r2
  rw [← hsi] at r0
  rw [← hst] at r1
  rw [← hsm] at r3
  rw [← hsb] at r5
  have HEQ := Lib.hid (And.intro hR (And.intro hsi (And.intro hst (And.intro hsm hsb))))
  clear hR hsi hst hsm hsb
  have HFIN : Hid (∀ nq, RPutPost w g (.slice A0 s.b.length c0) s i t n m l (.returned (.tuple #[.agg #[.int .i64 0, .int .i64 0, .slice none 0 0, .slice none 0 0], .bool false, .int .i64 55])) (((((w1.drewN nq).setCell ⟨w.heap.size + 1, 0, none⟩ (.int .i64 0)).setCell ⟨w.heap.size + 1, 1, none⟩ (.int .i64 0)).setCell ⟨w.heap.size + 1, 2, none⟩ (.slice none 0 0)).setCell ⟨w.heap.size + 1, 3, none⟩ (.slice none 0 0))) := Lib.hid fun nq => by
    have hz := grown_z4 (w1.drewN nq) (w.heap.size + 1) (.int .i64 0) (.int .i64 0) (.slice none 0 0) (.slice none 0 0)
    exact RPutPost.mk0 (s' := s) HE.out.1 HE.out.2.1 HE.out.2.2 ⟨Blk.grown (w := w1.drewN nq) KX.out hz (fun e => by injection e with e; omega), Own.kept (w := w1.drewN nq) HHV.out hz (.inr (fun e => by have := (Own.lt HI.out.2 _ e).2; omega))⟩ ((((But.refl (ptrV g) _ w).then_ hb01.out).then_ (below_drewN (Below.refl _ w1) nq)).grown hz (fun q hq => .inr (by injection hq with hq; omega))) (fun q hq => .inl hq)
  have KZN : Hid (∀ nq, Blk (w1.drewN nq) (w.heap.size + 1) 59 _) := Lib.hid fun nq => show Blk (w1.drewN nq) (w.heap.size + 1) 59 _ from KZ.out
  clear KX HHV KZ HE HI hb01 KP hs hs1 hgl hl hr hAg hv1 hv2 HOK HN0 hm64
  rcases hcase with h0 | ⟨h0, h1 | ⟨h1, h2 | ⟨h2, h3 | ⟨h3, h4⟩⟩⟩⟩
  · have q0 : ((sb : Int) == 0) = true := by simpa using h0
    clear h0
    go_wp2_with fail
    go_quiet (fail)
    have KZ6 := KZN.out nq
    obtain ⟨e0, e1, e2, e3, f0, f1, f2, f3⟩ := blk4_cells KZ6
    have KF := Lib.hid (blk_z4 KZ6 (.int .i64 0) (.int .i64 0) (.slice none 0 0) (.slice none 0 0))
    clear KZ6
    go_wp2_with fail
    refine bodyPost_ret (results_snap2 (fn := Try.f62) rfl _ _ (w.heap.size + 1) _ _ _ _ rfl KF.out) rfl ?_
    exact HFIN.out nq
  · have q0 : ((sb : Int) == 0) = false := by simpa using (by omega : (sb : Int) ≠ 0)
    have q1 : (R != n - 1) = true := by simpa using h1
    clear h0 h1
    go_wp2_with fail
    go_quiet (fail)
    have KZ6 := KZN.out nq
    obtain ⟨e0, e1, e2, e3, f0, f1, f2, f3⟩ := blk4_cells KZ6
    have KF := Lib.hid (blk_z4 KZ6 (.int .i64 0) (.int .i64 0) (.slice none 0 0) (.slice none 0 0))
    clear KZ6
    go_wp2_with fail
    refine bodyPost_ret (results_snap2 (fn := Try.f62) rfl _ _ (w.heap.size + 1) _ _ _ _ rfl KF.out) rfl ?_
    exact HFIN.out nq
  · have q0 : ((sb : Int) == 0) = false := by simpa using (by omega : (sb : Int) ≠ 0)
    have q2 : (si != i) = true := by simpa using h2
    rw [h1] at r2
    clear h0 h1 h2
    go_wp2_with fail
    go_quiet (fail)
    have KZ6 := KZN.out nq
    obtain ⟨e0, e1, e2, e3, f0, f1, f2, f3⟩ := blk4_cells KZ6
    have KF := Lib.hid (blk_z4 KZ6 (.int .i64 0) (.int .i64 0) (.slice none 0 0) (.slice none 0 0))
    clear KZ6
    go_wp2_with fail
    refine bodyPost_ret (results_snap2 (fn := Try.f62) rfl _ _ (w.heap.size + 1) _ _ _ _ rfl KF.out) rfl ?_
    exact HFIN.out nq
  · have q0 : ((sb : Int) == 0) = false := by simpa using (by omega : (sb : Int) ≠ 0)
    have q3 : (st != t) = true := by simpa using h3
    rw [h1] at r2
    rw [h2] at r0
    clear h0 h1 h2 h3
    go_wp2_with fail
    go_quiet (fail)
    have KZ6 := KZN.out nq
    obtain ⟨e0, e1, e2, e3, f0, f1, f2, f3⟩ := blk4_cells KZ6
    have KF := Lib.hid (blk_z4 KZ6 (.int .i64 0) (.int .i64 0) (.slice none 0 0) (.slice none 0 0))
    clear KZ6
    go_wp2_with fail
    refine bodyPost_ret (results_snap2 (fn := Try.f62) rfl _ _ (w.heap.size + 1) _ _ _ _ rfl KF.out) rfl ?_
    exact HFIN.out nq
  · have q0 : ((sb : Int) == 0) = false := by simpa using (by omega : (sb : Int) ≠ 0)
    have q4 : (sm != m) = true := by simpa using h4
    rw [h1] at r2
    rw [h2] at r0
    rw [h3] at r1
    clear h0 h1 h2 h3 h4
    go_wp2_with fail
    go_quiet (fail)
    have KZ6 := KZN.out nq
    obtain ⟨e0, e1, e2, e3, f0, f1, f2, f3⟩ := blk4_cells KZ6
    have KF := Lib.hid (blk_z4 KZ6 (.int .i64 0) (.int .i64 0) (.slice none 0 0) (.slice none 0 0))
    clear KZ6
    go_wp2_with fail
    refine bodyPost_ret (results_snap2 (fn := Try.f62) rfl _ _ (w.heap.size + 1) _ _ _ _ rfl KF.out) rfl ?_
    exact HFIN.out nq
end Go.Proofs.Ytelplpajpfkfiaa
