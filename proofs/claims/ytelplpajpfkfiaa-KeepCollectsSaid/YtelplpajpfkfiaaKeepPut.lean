/- An inbox takes a piece ((*keep.Inbox).Put). Condition: the inbox is a call's own, the piece can be read. -/
import Derived.Test.YtelplpajpfkfiaaKeepRight
set_option linter.unusedVariables false
namespace Go.Proofs.Ytelplpajpfkfiaa
open Go.RowKit Oct

/-- An inbox in memory. -/
def InbAt (w : World) (g : Nat) (s : Inb) (v : Value) : Prop := Blk w g 113 #[.int .i64 s.i, .int .i64 s.t, .int .i64 s.m, .int .i64 s.n, v] ∧ Bs w (g + 1) v s.b
def ptrV (g : Nat) : Value := .slice (some ⟨g, 0, none⟩) 0 0
theorem But.refl (x y : Value) (w : World) : But x y w w := ⟨rfl, rfl, rfl, Nat.le_refl _, fun _ _ _ _ => rfl⟩
theorem But.then_ {x y : Value} {w w1 w2 : World} (h : But x y w w1) (hb : Below w1.heap.size w1 w2) : But x y w w2 :=
  ⟨hb.os.trans h.os, hb.tape.trans h.tape, hb.output.trans h.output, Nat.le_trans h.size hb.size, fun k hk h1 h2 => (hb.block k (by have := h.size; omega)).trans (h.block k hk h1 h2)⟩
theorem But.grown {x y : Value} {w w1 w2 : World} (h : But x y w w1) {row : Option Nat} (hg : w1.grownBy w2 row) (hr : ∀ q, row = some q → y.ownBlock = some q ∨ w.heap.size ≤ q) : But x y w w2 :=
  ⟨hg.os.trans h.os, hg.tape.trans h.tape, hg.output.trans h.output, Nat.le_trans h.size hg.size, fun k hk h1 h2 => (hg.block k (by have := h.size; omega) (fun e => by
    rcases hr k e.symm with h3 | h3
    · exact h2 h3
    · omega)).trans (h.block k hk h1 h2)⟩
theorem But.bump {g : Nat} {y : Value} {w w1 w2 : World} (h : But (ptrV g) y w w1) (hg : w1.grownBy w2 (some g)) : But (ptrV g) y w w2 :=
  ⟨hg.os.trans h.os, hg.tape.trans h.tape, hg.output.trans h.output, Nat.le_trans h.size hg.size, fun k hk h1 h2 => (hg.block k (by have := h.size; omega) (fun e => h1 (by injection e with e; rw [e]; rfl))).trans (h.block k hk h1 h2)⟩
/-- Where a next inbox's bytes lie. -/
def Next (v v' : Value) (n : Nat) : Prop := ∀ q, v'.ownBlock = some q → v.ownBlock = some q ∨ n ≤ q
set_option maxRecDepth 100000 in
theorem results_snap2 {fn : Func} (h : fn.results = #[.cell 4 59, .tmp 5, .tmp 6]) (tmps : Array Value) (W : World) (g : Nat) (a b c d : Value) (hp : tmps[4]?.getD undef = .pointer (some ⟨g, 0, none⟩)) (hB : Blk W g 59 #[a, b, c, d]) :
    (results fn tmps).run Try.prog W = .ok (.tuple #[.agg #[a, b, c, d], tmps.getD 5 undef, tmps.getD 6 undef]) W := by
  obtain ⟨e0, e1, e2, e3, f0, f1, f2, f3⟩ := blk4_cells hB
  simp [results, h, go_sem, hp, e0, e1, e2, e3]
def zero4 : Array Value := #[.int .i64 0, .int .i64 0, .slice none 0 0, .slice none 0 0]
theorem snapR_zero (w : World) (base : Nat) : SnapR w base (.agg #[.int .i64 0, .int .i64 0, .slice none 0 0, .slice none 0 0]) 0 0 [] [] :=
  ⟨_, _, rfl, Own.nil _ _ _, Own.nil _ _ _, fun k h => by simp [Value.ownBlock] at h⟩
/-- What Put hands back, and where the inbox is then. -/
def PutPost (w : World) (g : Nat) (v : Value) (s : Inb) (i t n m : Int) (l : List UInt8) (e : Ending) (w' : World) : Prop :=
  ∃ V v', e = .returned (.tuple #[V, .bool (endB s i t n m l), .int .i64 (putE s i t n m l)]) ∧ SnapR w' w.heap.size V (zI (endB s i t n m l) (oI (putB s n l))) (zI (endB s i t n m l) (oT (putB s n l))) (zL (endB s i t n m l) (oZ (putB s n l))) (zL (endB s i t n m l) (oD (putB s n l))) ∧
    InbAt w' g (putS s i t n m l) v' ∧ But (ptrV g) v w w' ∧ Next v v' w.heap.size ∧ (endB s i t n m l = true → v' = .slice none 0 0) ∧ (endB s i t n m l = false → V = .agg #[.int .i64 0, .int .i64 0, .slice none 0 0, .slice none 0 0])
theorem PutPost.mk' {w w' : World} {g : Nat} {v v' V : Value} {s : Inb} {i t n m : Int} {l : List UInt8} {b : Bool} {er : Int} {I T : Int} {Z : List Int} {D : List UInt8} {s' : Inb}
    (h1 : endB s i t n m l = b) (h2 : putE s i t n m l = er) (h3 : putS s i t n m l = s') (h4 : zI b (oI (putB s n l)) = I) (h5 : zI b (oT (putB s n l)) = T) (h6 : zL b (oZ (putB s n l)) = Z) (h7 : zL b (oD (putB s n l)) = D)
    (hS : SnapR w' w.heap.size V I T Z D) (hI : InbAt w' g s' v') (hB : But (ptrV g) v w w') (hN : Next v v' w.heap.size) (hZ : b = true → v' = .slice none 0 0) (hZ2 : b = false → V = .agg #[.int .i64 0, .int .i64 0, .slice none 0 0, .slice none 0 0]) : PutPost w g v s i t n m l (.returned (.tuple #[V, .bool b, .int .i64 er])) w' := by
  subst h1; subst h2; subst h3; subst h4; subst h5; subst h6; subst h7
  exact ⟨V, v', rfl, hS, hI, hB, hN, hZ, hZ2⟩
theorem PutPost.mk0 {w w' : World} {g : Nat} {v v' : Value} {s : Inb} {i t n m : Int} {l : List UInt8} {er : Int} {s' : Inb}
    (h1 : endB s i t n m l = false) (h2 : putE s i t n m l = er) (h3 : putS s i t n m l = s')
    (hI : InbAt w' g s' v') (hB : But (ptrV g) v w w') (hN : Next v v' w.heap.size) : PutPost w g v s i t n m l (.returned (.tuple #[.agg #[.int .i64 0, .int .i64 0, .slice none 0 0, .slice none 0 0], .bool false, .int .i64 er])) w' :=
  PutPost.mk' h1 h2 h3 (I := 0) (T := 0) (Z := []) (D := []) (by simp [zI]) (by simp [zI]) (by simp [zL]) (by simp [zL]) (snapR_zero _ _) hI hB hN (fun h => by cases h) (fun _ => rfl)
theorem grown_set {w w' : World} {g : Nat} (h : w.grownBy w' (some g)) (j : Nat) (u : Value) : w.grownBy (w'.setCell ⟨g, j, none⟩ u) (some g) := grown_then h (grown_setCell w' g j u) (.inl rfl)
theorem grown_z4 (w : World) (g : Nat) (a b c d : Value) : w.grownBy ((((w.setCell ⟨g, 0, none⟩ a).setCell ⟨g, 1, none⟩ b).setCell ⟨g, 2, none⟩ c).setCell ⟨g, 3, none⟩ d) (some g) :=
  grown_set (grown_set (grown_set (grown_setCell w g 0 a) 1 b) 2 c) 3 d
theorem grown_z5 (w : World) (g : Nat) (a b c d e : Value) : w.grownBy (((((w.setCell ⟨g, 0, none⟩ a).setCell ⟨g, 1, none⟩ b).setCell ⟨g, 2, none⟩ c).setCell ⟨g, 3, none⟩ d).setCell ⟨g, 4, none⟩ e) (some g) :=
  grown_set (grown_z4 w g a b c d) 4 e
theorem blk_z4 {w : World} {g : Nat} {T : TypeId} {p q r u : Value} (h : Blk w g T #[p, q, r, u]) (a b c d : Value) : Blk ((((w.setCell ⟨g, 0, none⟩ a).setCell ⟨g, 1, none⟩ b).setCell ⟨g, 2, none⟩ c).setCell ⟨g, 3, none⟩ d) g T #[a, b, c, d] :=
  (((h.set_ 0 a).set_ 1 b).set_ 2 c).set_ 3 d
theorem blk_z5 {w : World} {g : Nat} {T : TypeId} {p q r u v : Value} (h : Blk w g T #[p, q, r, u, v]) (a b c d e : Value) : Blk (((((w.setCell ⟨g, 0, none⟩ a).setCell ⟨g, 1, none⟩ b).setCell ⟨g, 2, none⟩ c).setCell ⟨g, 3, none⟩ d).setCell ⟨g, 4, none⟩ e) g T #[a, b, c, d, e] :=
  ((((h.set_ 0 a).set_ 1 b).set_ 2 c).set_ 3 d).set_ 4 e
theorem put_more {s : Inb} {i t n m : Int} {l bb : List UInt8} (h1 : okB s i t n m l = true) (h2 : putB s n l = bb) (h3 : n + 1 < m) : endB s i t n m l = false ∧ putE s i t n m l = 0 ∧ putS s i t n m l = ⟨i, t, m, n + 1, bb⟩ := by
  have hp := (okB_spec h1).1
  refine ⟨by unfold endB; simp [h3], ?_, ?_⟩
  · unfold putE; rw [if_neg (by rw [hp]; simp), if_neg (by rw [h1]; simp), if_pos h3]
  · unfold putS; rw [if_neg (by rw [h1]; simp), if_pos h3, h2]
theorem put_end {s : Inb} {i t n m : Int} {l bb : List UInt8} (h1 : okB s i t n m l = true) (h2 : putB s n l = bb) (h3 : ¬ n + 1 < m) : endB s i t n m l = sameB bb i t ∧ putE s i t n m l = (if sameB bb i t = true then 0 else 54) ∧ putS s i t n m l = inb0 := by
  have hp := (okB_spec h1).1
  refine ⟨by unfold endB; rw [h1, h2]; simp [h3], ?_, ?_⟩
  · unfold putE; rw [if_neg (by rw [hp]; simp), if_neg (by rw [h1]; simp), if_neg h3, h2]
  · unfold putS; rw [if_neg (by rw [h1]; simp), if_neg h3]
theorem sameB_true {b : List UInt8} {i t : Int} (h : sameB b i t = true) : oE b = 0 ∧ oI b = i ∧ oT b = t := by
  unfold sameB at h
  simp only [Bool.and_eq_true, decide_eq_true_eq] at h
  simp [oE, oI, oT, h.1.1, h.1.2, h.2]
theorem blk5_at {w : World} {g : Nat} {t : TypeId} {a b c d e : Value} (h : Blk w g t #[a, b, c, d, e]) :
    w.cell? ⟨g, 0, none⟩ = some a ∧ w.cell? ⟨g, 1, none⟩ = some b ∧ w.cell? ⟨g, 2, none⟩ = some c ∧ w.cell? ⟨g, 3, none⟩ = some d ∧ w.cell? ⟨g, 4, none⟩ = some e ∧ w.frozen? ⟨g, 0, none⟩ = false ∧ w.frozen? ⟨g, 1, none⟩ = false ∧ w.frozen? ⟨g, 2, none⟩ = false ∧ w.frozen? ⟨g, 3, none⟩ = false ∧ w.frozen? ⟨g, 4, none⟩ = false :=
  ⟨h.cell 0, h.cell 1, h.cell 2, h.cell 3, h.cell 4, h.frozen 0, h.frozen 1, h.frozen 2, h.frozen 3, h.frozen 4⟩


set_option maxHeartbeats 4000000 in
set_option maxRecDepth 100000 in
theorem put_bad (g : Nat) (s : Inb) (hs : s.ok) (v : Value) (i t n m : Int) (hi64 : -9223372036854775808 ≤ i ∧ i ≤ 9223372036854775807) (ht64 : -9223372036854775808 ≤ t ∧ t ≤ 9223372036854775807) (hn64 : -9223372036854775808 ≤ n ∧ n ≤ 9223372036854775807) (hm64 : -9223372036854775808 ≤ m ∧ m ≤ 9223372036854775807)
    (A : Option Addr) (l : List UInt8) (k c : Nat) (hk : k = l.length) (w : World) (hI : InbAt w g s v) (hr : Rd w w.heap.size A (cells l)) (hl : l.length ≤ 140737488351232) (hAg : ∀ ad, A = some ad → 0 < l.length → ad.block ≠ g) (hbad : pcB i t n m l.length = false) :
    Calls Try.prog 60 #[.pointer (some ⟨g, 0, none⟩), pcV i t n m A k c] w (PutPost w g v s i t n m l) := by
  subst hk
  have hright := Lib.hid (right_any i t n m A l.length c hi64 ht64 hn64 hm64 (((w.alloc (.cells #[.int .i64 i, .int .i64 t, .int .i64 n, .int .i64 m, .slice A l.length c] 71)).alloc (.cells #[.int .i64 0, .int .i64 0, .slice none 0 0, .slice none 0 0] 59)).alloc (.cells #[.int .i64 i, .int .i64 t, .int .i64 m, .int .i64 n] 111)))
  unfold pcV at hright ⊢
  have hgl : g < w.heap.size := hI.1.lt
  have hs1 : (w.alloc (.cells #[.int .i64 i, .int .i64 t, .int .i64 n, .int .i64 m, .slice A l.length c] 71)).heap.size = w.heap.size + 1 := by simp
  have hs2 : ((w.alloc (.cells #[.int .i64 i, .int .i64 t, .int .i64 n, .int .i64 m, .slice A l.length c] 71)).alloc (.cells #[.int .i64 0, .int .i64 0, .slice none 0 0, .slice none 0 0] 59)).heap.size = w.heap.size + 1 + 1 := by simp
  have hs3 : (((w.alloc (.cells #[.int .i64 i, .int .i64 t, .int .i64 n, .int .i64 m, .slice A l.length c] 71)).alloc (.cells #[.int .i64 0, .int .i64 0, .slice none 0 0, .slice none 0 0] 59)).alloc (.cells #[.int .i64 i, .int .i64 t, .int .i64 m, .int .i64 n] 111)).heap.size = w.heap.size + 3 := by simp
  have KP := ((Blk.new w 71 #[.int .i64 i, .int .i64 t, .int .i64 n, .int .i64 m, .slice A l.length c]).alloc (.cells #[.int .i64 0, .int .i64 0, .slice none 0 0, .slice none 0 0] 59)).alloc (.cells #[.int .i64 i, .int .i64 t, .int .i64 m, .int .i64 n] 111)
  have KZ := (Blk.new (w.alloc (.cells #[.int .i64 i, .int .i64 t, .int .i64 n, .int .i64 m, .slice A l.length c] 71)) 59 #[.int .i64 0, .int .i64 0, .slice none 0 0, .slice none 0 0]).alloc (.cells #[.int .i64 i, .int .i64 t, .int .i64 m, .int .i64 n] 111)
  rw [hs1] at KZ
  have KQ := Blk.new ((w.alloc (.cells #[.int .i64 i, .int .i64 t, .int .i64 n, .int .i64 m, .slice A l.length c] 71)).alloc (.cells #[.int .i64 0, .int .i64 0, .slice none 0 0, .slice none 0 0] 59)) 111 #[.int .i64 i, .int .i64 t, .int .i64 m, .int .i64 n]
  rw [hs2] at KQ
  have hb0 := Lib.hid ((((Below.refl w.heap.size w).alloc (Nat.le_refl _) (.cells #[.int .i64 i, .int .i64 t, .int .i64 n, .int .i64 m, .slice A l.length c] 71)).alloc (by rw [hs1]; omega) (.cells #[.int .i64 0, .int .i64 0, .slice none 0 0, .slice none 0 0] 59)).alloc (by rw [hs2]; omega) (.cells #[.int .i64 i, .int .i64 t, .int .i64 m, .int .i64 n] 111))
  have HZ := Lib.hid hs3
  have KP := Lib.hid KP
  have KZ := Lib.hid KZ
  have KQ := Lib.hid KQ
  have HI := Lib.hid hI
  clear hs1 hs2 hs3 hI hi64 ht64
  go_enter Try.func60, Try.ntmps60
  go_wp2_with fail
  refine hright.out.mono ?_
  clear hright
  rintro e w1 ⟨rfl, hb1⟩
  generalize hW0 : ((w.alloc (.cells #[.int .i64 i, .int .i64 t, .int .i64 n, .int .i64 m, .slice A l.length c] 71)).alloc (.cells #[.int .i64 0, .int .i64 0, .slice none 0 0, .slice none 0 0] 59)).alloc (.cells #[.int .i64 i, .int .i64 t, .int .i64 m, .int .i64 n] 111) = w0 at hb0 HZ KP KZ KQ hb1 ⊢
  clear hW0
  have hs1 : w.heap.size + 3 ≤ w1.heap.size := by have := hb1.size; rw [HZ.out] at this; exact this
  replace KP := Lib.hid (KP.out.below hb1 (by rw [HZ.out]; omega))
  replace KZ := Lib.hid (KZ.out.below hb1 (by rw [HZ.out]; omega))
  replace KQ := Lib.hid (KQ.out.below hb1 (by rw [HZ.out]; omega))
  have hb01 := Lib.hid (hb0.out.trans (hb1.mono (by rw [HZ.out]; omega)))
  clear hb1 hb0 HZ
  rw [hbad]
  obtain ⟨e0, e1, e2, e3, f0, f1, f2, f3⟩ := blk4_cells KZ.out
  have KF := Lib.hid ((((Blk.set_ KZ.out 0 (.int .i64 0)).set_ 1 (.int .i64 0)).set_ 2 (.slice none 0 0)).set_ 3 (.slice none 0 0))
  have hbF := Lib.hid ((((hb01.out.setCell (p := ⟨w.heap.size + 1, 0, none⟩) (by show w.heap.size ≤ w.heap.size + 1; omega) (.int .i64 0)).setCell (p := ⟨w.heap.size + 1, 1, none⟩) (by show w.heap.size ≤ w.heap.size + 1; omega) (.int .i64 0)).setCell (p := ⟨w.heap.size + 1, 2, none⟩) (by show w.heap.size ≤ w.heap.size + 1; omega) (.slice none 0 0)).setCell (p := ⟨w.heap.size + 1, 3, none⟩) (by show w.heap.size ≤ w.heap.size + 1; omega) (.slice none 0 0))
  have HB := Lib.hid hbad
  have HKX := Lib.hid (Blk.below HI.out.1 hbF.out hgl)
  have HHV := Lib.hid (Own.below HI.out.2 hbF.out (Nat.le_refl _))
  have HFIN := Lib.hid (But.then_ (But.refl (ptrV g) v w) hbF.out)
  clear hbad KZ
  go_wp2_with fail
  refine bodyPost_ret (results_snap2 (fn := Try.f60) rfl _ _ (w.heap.size + 1) _ _ _ _ rfl KF.out) rfl ?_
  have hok : okB s i t n m l = false := by unfold okB; rw [HB.out]; rfl
  have he : endB s i t n m l = false := by unfold endB; rw [hok]; rfl
  refine PutPost.mk0 (s' := s) he (by unfold putE; rw [if_pos HB.out]) (by unfold putS; rw [if_pos hok]) ⟨HKX.out, HHV.out⟩ HFIN.out (fun q hq => .inl hq)

set_option maxHeartbeats 4000000 in
set_option maxRecDepth 100000 in
theorem put_first (g : Nat) (s : Inb) (hs : s.ok) (v : Value) (i t m : Int) (hi64 : -9223372036854775808 ≤ i ∧ i ≤ 9223372036854775807) (ht64 : -9223372036854775808 ≤ t ∧ t ≤ 9223372036854775807) (hm64 : -9223372036854775808 ≤ m ∧ m ≤ 9223372036854775807)
    (A : Option Addr) (l : List UInt8) (k c : Nat) (hk : k = l.length) (w : World) (hI : InbAt w g s v) (hr : Rd w w.heap.size A (cells l)) (hl : l.length ≤ 140737488351232) (hAg : ∀ ad, A = some ad → 0 < l.length → ad.block ≠ g) (hok : pcB i t 0 m l.length = true) :
    Calls Try.prog 60 #[.pointer (some ⟨g, 0, none⟩), pcV i t 0 m A k c] w (PutPost w g v s i t 0 m l) := by
  subst hk
  have hright := Lib.hid (right_any i t 0 m A l.length c hi64 ht64 ⟨by omega, by omega⟩ hm64 (((w.alloc (.cells #[.int .i64 i, .int .i64 t, .int .i64 0, .int .i64 m, .slice A l.length c] 71)).alloc (.cells #[.int .i64 0, .int .i64 0, .slice none 0 0, .slice none 0 0] 59)).alloc (.cells #[.int .i64 i, .int .i64 t, .int .i64 m, .int .i64 0] 111)))
  unfold pcV at hright ⊢
  have hgl : g < w.heap.size := hI.1.lt
  have hs1 : (w.alloc (.cells #[.int .i64 i, .int .i64 t, .int .i64 0, .int .i64 m, .slice A l.length c] 71)).heap.size = w.heap.size + 1 := by simp
  have hs2 : ((w.alloc (.cells #[.int .i64 i, .int .i64 t, .int .i64 0, .int .i64 m, .slice A l.length c] 71)).alloc (.cells #[.int .i64 0, .int .i64 0, .slice none 0 0, .slice none 0 0] 59)).heap.size = w.heap.size + 1 + 1 := by simp
  have hs3 : (((w.alloc (.cells #[.int .i64 i, .int .i64 t, .int .i64 0, .int .i64 m, .slice A l.length c] 71)).alloc (.cells #[.int .i64 0, .int .i64 0, .slice none 0 0, .slice none 0 0] 59)).alloc (.cells #[.int .i64 i, .int .i64 t, .int .i64 m, .int .i64 0] 111)).heap.size = w.heap.size + 3 := by simp
  have KP := ((Blk.new w 71 #[.int .i64 i, .int .i64 t, .int .i64 0, .int .i64 m, .slice A l.length c]).alloc (.cells #[.int .i64 0, .int .i64 0, .slice none 0 0, .slice none 0 0] 59)).alloc (.cells #[.int .i64 i, .int .i64 t, .int .i64 m, .int .i64 0] 111)
  have KZ := (Blk.new (w.alloc (.cells #[.int .i64 i, .int .i64 t, .int .i64 0, .int .i64 m, .slice A l.length c] 71)) 59 #[.int .i64 0, .int .i64 0, .slice none 0 0, .slice none 0 0]).alloc (.cells #[.int .i64 i, .int .i64 t, .int .i64 m, .int .i64 0] 111)
  rw [hs1] at KZ
  have KQ := Blk.new ((w.alloc (.cells #[.int .i64 i, .int .i64 t, .int .i64 0, .int .i64 m, .slice A l.length c] 71)).alloc (.cells #[.int .i64 0, .int .i64 0, .slice none 0 0, .slice none 0 0] 59)) 111 #[.int .i64 i, .int .i64 t, .int .i64 m, .int .i64 0]
  rw [hs2] at KQ
  have hb0 := Lib.hid ((((Below.refl w.heap.size w).alloc (Nat.le_refl _) (.cells #[.int .i64 i, .int .i64 t, .int .i64 0, .int .i64 m, .slice A l.length c] 71)).alloc (by rw [hs1]; omega) (.cells #[.int .i64 0, .int .i64 0, .slice none 0 0, .slice none 0 0] 59)).alloc (by rw [hs2]; omega) (.cells #[.int .i64 i, .int .i64 t, .int .i64 m, .int .i64 0] 111))
  have HZ := Lib.hid hs3
  have KP := Lib.hid KP
  have KZ := Lib.hid KZ
  have KQ := Lib.hid KQ
  have HI := Lib.hid hI
  clear hs1 hs2 hs3 hI hi64 ht64
  go_enter Try.func60, Try.ntmps60
  go_wp2_with fail
  refine hright.out.mono ?_
  clear hright
  rintro e w1 ⟨rfl, hb1⟩
  generalize hW0 : ((w.alloc (.cells #[.int .i64 i, .int .i64 t, .int .i64 0, .int .i64 m, .slice A l.length c] 71)).alloc (.cells #[.int .i64 0, .int .i64 0, .slice none 0 0, .slice none 0 0] 59)).alloc (.cells #[.int .i64 i, .int .i64 t, .int .i64 m, .int .i64 0] 111) = w0 at hb0 HZ KP KZ KQ hb1 ⊢
  clear hW0
  have hs1 : w.heap.size + 3 ≤ w1.heap.size := by have := hb1.size; rw [HZ.out] at this; exact this
  replace KP := Lib.hid (KP.out.below hb1 (by rw [HZ.out]; omega))
  replace KZ := Lib.hid (KZ.out.below hb1 (by rw [HZ.out]; omega))
  replace KQ := Lib.hid (KQ.out.below hb1 (by rw [HZ.out]; omega))
  have hb01 := Lib.hid (hb0.out.trans (hb1.mono (by rw [HZ.out]; omega)))
  clear hb1 hb0 HZ
  have hokb : okB s i t 0 m l = true := by unfold okB; rw [hok]; rfl
  have hpl : (putB s 0 l).length ≤ 1640000 ∧ 0 < (putB s 0 l).length := by have h1 := putB_len hs hokb; have h2 := pcB_spec.1 (okB_spec hokb).1; omega
  have HOKB := Lib.hid hokb
  have HPB : Hid (putB s 0 l = l) := Lib.hid rfl
  have hpl2 : l.length ≤ 1640000 ∧ 0 < l.length := by rw [← HPB.out]; exact hpl
  rw [hok]
  have hbl : ([] : List UInt8).length + l.length ≤ 1640000 := by have h3 := hpl2.1; simpa using h3
  obtain ⟨r0, r1, r2, r3, r4, u0, u1, u2, u3, u4⟩ := blk5_at (HI.out.1.below hb01.out hgl)
  obtain ⟨d0, d1, d2, d3, _, _, _, _⟩ := blk4_cells KQ.out
  obtain ⟨p0, p1, p2, p3, p4, _, _, _, _, _⟩ := blk5_at KP.out
  have hz := grown_z5 w1 g (.int .i64 i) (.int .i64 t) (.int .i64 m) (.int .i64 0) (.slice none 0 0)
  have KX := Lib.hid (blk_z5 (HI.out.1.below hb01.out hgl) (.int .i64 i) (.int .i64 t) (.int .i64 m) (.int .i64 0) (.slice none 0 0))
  have HBUT := Lib.hid (((But.refl (ptrV g) v w).then_ hb01.out).bump hz)
  replace KP := Lib.hid (KP.out.grown hz (fun e => by injection e with e; omega))
  replace KZ := Lib.hid (KZ.out.grown hz (fun e => by injection e with e; omega))
  have hs2 : w.heap.size + 3 ≤ (((((w1.setCell ⟨g, 0, none⟩ (.int .i64 i)).setCell ⟨g, 1, none⟩ (.int .i64 t)).setCell ⟨g, 2, none⟩ (.int .i64 m)).setCell ⟨g, 3, none⟩ (.int .i64 0)).setCell ⟨g, 4, none⟩ (.slice none 0 0)).heap.size := Nat.le_trans hs1 hz.size
  have HRL := Lib.hid ((hr.below hb01.out).grown_ne hz (by omega) (fun ad had hn e => hAg ad had (by simpa [cells] using hn) (by injection e)))
  clear hokb hok hz
  go_upto_region 8 with fail
  generalize hW2 : ((((w1.setCell ⟨g, 0, none⟩ (.int .i64 i)).setCell ⟨g, 1, none⟩ (.int .i64 t)).setCell ⟨g, 2, none⟩ (.int .i64 m)).setCell ⟨g, 3, none⟩ (.int .i64 0)).setCell ⟨g, 4, none⟩ (.slice none 0 0) = w2 at KX HBUT KP KZ hs2 HRL ⊢
  clear hW2 r0 r1 r2 r3 r4 u0 u1 u2 u3 u4 d0 d1 d2 d3 p0 p1 p2 p3 p4 hb01 HI KQ hs1
  have HV : Hid (Bs w2 (g + 1) (.slice none 0 0) []) := Lib.hid (Own.nil _ _ _)
  have HQ : Hid (∀ q, Value.ownBlock (.slice none 0 0) = some q → g < q ∧ q < w.heap.size) := Lib.hid (fun q hq => by simp [Value.ownBlock] at hq)
  have HNX : Hid (Next v (.slice none 0 0) w.heap.size) := Lib.hid (fun q hq => by simp [Value.ownBlock] at hq)
  obtain ⟨x0, x1, x2, x3, x4, y0, y1, y2, y3, y4⟩ := blk5_at KX.out
  obtain ⟨p0, p1, p2, p3, p4, _, _, _, _, _⟩ := blk5_at KP.out
  go_wp2_with fail
  refine wp_region_heldT 10 (by kernel_rfl) (S := fun W => W.cell? ⟨g, 4, none⟩ = some (.slice none 0 0) ∧ W.cell? ⟨w.heap.size, 4, none⟩ = some (.slice A l.length c) ∧ True ∧ True) ⟨x4, p4, trivial, trivial⟩ (fun hHeld => ?_)
  refine heldT_take 0 (v := ?_) (by simp) (by kernel_rfl) (by kernel_rfl) (by kernel_rfl) (by kernel_rfl) (fun _ _ _ h => h) (Or.inl ⟨by rfl, ?_⟩) hHeld ?_
  case refine_2 => (intro w hSw; (try dsimp only at hSw); (try (obtain ⟨s0, s1, s2, s3⟩ := hSw)); simp only [List.getElem_cons_zero]; go_simp <;> with_reducible rfl)
  simp only [List.getElem_cons_zero, Act.put, List.setIfInBounds_toArray, List.set_cons_zero, List.set_cons_succ]
  refine heldT_take 1 (v := ?_) (by simp) (by kernel_rfl) (by kernel_rfl) (by kernel_rfl) (by kernel_rfl) (fun _ _ _ h => h) (Or.inl ⟨by rfl, ?_⟩) hHeld ?_
  case refine_2 => (intro w hSw; (try dsimp only at hSw); (try (obtain ⟨s0, s1, s2, s3⟩ := hSw)); simp only [List.getElem_cons_zero, List.getElem_cons_succ]; go_simp <;> with_reducible rfl)
  simp only [List.getElem_cons_zero, List.getElem_cons_succ, Act.put, List.setIfInBounds_toArray, List.set_cons_zero, List.set_cons_succ]
  refine heldT_take 2 (v := ?_) (by simp) (by kernel_rfl) (by kernel_rfl) (by kernel_rfl) (by kernel_rfl) (fun _ _ _ h => h) (Or.inl ⟨by rfl, ?_⟩) hHeld ?_
  case refine_2 => (intro w hSw; (try dsimp only at hSw); (try (obtain ⟨s0, s1, s2, s3⟩ := hSw)); simp only [List.getElem_cons_zero, List.getElem_cons_succ]; go_simp <;> with_reducible rfl)
  simp only [List.getElem_cons_zero, List.getElem_cons_succ, Act.put, List.setIfInBounds_toArray, List.set_cons_zero, List.set_cons_succ]
  refine heldT_take 3 (v := ?_) (by simp) (by kernel_rfl) (by kernel_rfl) (by kernel_rfl) (by kernel_rfl) (fun _ _ _ h => h) (Or.inl ⟨by rfl, ?_⟩) hHeld ?_
  case refine_2 => (intro w hSw; (try dsimp only at hSw); (try (obtain ⟨s0, s1, s2, s3⟩ := hSw)); simp only [List.getElem_cons_zero, List.getElem_cons_succ]; go_simp <;> with_reducible rfl)
  simp only [List.getElem_cons_zero, List.getElem_cons_succ, Act.put, List.setIfInBounds_toArray, List.set_cons_zero, List.set_cons_succ]
  refine heldT_take 4 (v := ?_) (by simp) (by kernel_rfl) (by kernel_rfl) (by kernel_rfl) (by kernel_rfl) (fun _ _ _ h => h) (Or.inl ⟨by rfl, ?_⟩) hHeld ?_
  case refine_2 => (intro w hSw; (try dsimp only at hSw); (try (obtain ⟨s0, s1, s2, s3⟩ := hSw)); simp only [List.getElem_cons_zero, List.getElem_cons_succ]; go_simp <;> with_reducible rfl)
  simp only [List.getElem_cons_zero, List.getElem_cons_succ, Act.put, List.setIfInBounds_toArray, List.set_cons_zero, List.set_cons_succ]
  refine heldT_take 5 (v := ?_) (by simp) (by kernel_rfl) (by kernel_rfl) (by kernel_rfl) (by kernel_rfl) (fun _ _ _ h => h) (Or.inl ⟨by rfl, ?_⟩) hHeld ?_
  case refine_2 => (intro w hSw; (try dsimp only at hSw); (try (obtain ⟨s0, s1, s2, s3⟩ := hSw)); simp only [List.getElem_cons_zero, List.getElem_cons_succ]; go_simp <;> with_reducible rfl)
  simp only [List.getElem_cons_zero, List.getElem_cons_succ, Act.put, List.setIfInBounds_toArray, List.set_cons_zero, List.set_cons_succ]
  refine heldT_take 6 (v := ?_) (by simp) (by kernel_rfl) (by kernel_rfl) (by kernel_rfl) (by kernel_rfl) (fun _ _ _ h => h) (Or.inl ⟨by rfl, ?_⟩) hHeld ?_
  case refine_2 => (intro w hSw; (try dsimp only at hSw); (try (obtain ⟨s0, s1, s2, s3⟩ := hSw)); simp only [List.getElem_cons_zero, List.getElem_cons_succ]; go_simp <;> with_reducible rfl)
  simp only [List.getElem_cons_zero, List.getElem_cons_succ, Act.put, List.setIfInBounds_toArray, List.set_cons_zero, List.set_cons_succ]
  refine heldT_sole 7 (by simp) (by kernel_rfl) (fun K hK => ?_)
  simp only [List.getElem_cons_zero, List.getElem_cons_succ]
  rw [if_pos (by rfl)]
  refine wp_append_any (.tmp 44) (.tmp 46) 22 rfl (g + 1) 5 (.int .u8 0) 1 Try.underlying22 info_u8 rfl _ _ rfl (show Bs w2.drew (g + 1) (.slice none 0 0) [] from HV.out) w.heap.size A l.length c _ rfl (cells_length _).symm (show Rd w2.drew w.heap.size A (cells l) from HRL.out) (bytes_oneCell _) (by rw [cells_length]; unfold maxLen; omega) (by rw [cells_length]; omega) (by show g + 1 ≤ w2.heap.size; omega) ?_
  intro v3 w3 hown3 hg3 hf3
  have HV3 : Hid (Bs w3 (g + 1) v3 l) := Lib.hid (by simpa [Bs, cells_nil] using hown3)
  have hbk : ∀ b, b < w2.heap.size → (∀ q, Value.ownBlock (.slice none 0 0) = some q → b ≠ q) → w3.heap[b]? = w2.heap[b]? := fun b hb hne => hg3.block b hb (fun e => hne b e.symm rfl)
  have KX3 : Blk w3 g 113 #[.int .i64 i, .int .i64 t, .int .i64 m, .int .i64 0, (.slice none 0 0)] := (hbk g (by omega) (fun q hq => by have := HQ.out q hq; omega)).trans KX.out
  have KP3 : Blk w3 w.heap.size 71 _ := (hbk w.heap.size (by omega) (fun q hq => by have := HQ.out q hq; omega)).trans KP.out
  have KZ3 : Blk w3 (w.heap.size + 1) 59 _ := (hbk (w.heap.size + 1) (by omega) (fun q hq => by have := HQ.out q hq; omega)).trans KZ.out
  have HBUT3 : But (ptrV g) v w w3 := HBUT.out.grown (w1 := w2) ⟨hg3.os, hg3.tape, hg3.output, hg3.size, hg3.block⟩ (fun q hq => HNX.out q hq)
  have HN3 : Hid (Next v v3 w.heap.size) := Lib.hid (fun q hq => by
    rcases hf3 with hf3 | ⟨g', hf3, hg'⟩
    · exact HNX.out q (hf3.symm.trans hq)
    · rw [hf3] at hq
      injection hq with hq
      subst hq
      have h1 : w2.heap.size ≤ g' := hg'
      exact .inr (by omega))
  have HQ3 : Hid (∀ q, v3.ownBlock = some q → q < w.heap.size ∨ w.heap.size + 3 ≤ q) := Lib.hid (fun q hq => by
    rcases hf3 with hf3 | ⟨g', hf3, hg'⟩
    · exact .inl (HQ.out q (hf3.symm.trans hq)).2
    · rw [hf3] at hq
      injection hq with hq
      subst hq
      have h1 : w2.heap.size ≤ g' := hg'
      exact .inr (by omega))
  have hs3 : w.heap.size + 3 ≤ w3.heap.size := Nat.le_trans hs2 hg3.size
  obtain ⟨A3, c3, rfl, hc3, hm3, -⟩ := bs_shape HV3.out
  obtain ⟨x0, x1, x2, x3, x4, y0, y1, y2, y3, y4⟩ := blk5_at KX3
  obtain ⟨p0, p1, p2, p3, p4, _, _, _, _, _⟩ := blk5_at KP3
  clear hown3 hf3 hg3
  refine hK.out _ _ ⟨x4, p4, trivial, trivial⟩ (fun hHeld => ?_)
  clear hK K
  try simp only [Act.put, List.setIfInBounds_toArray, List.set_cons_zero, List.set_cons_succ]
  refine heldT_sole 8 (by simp) (by kernel_rfl) (fun K hK => ?_)
  simp only [List.getElem_cons_zero, List.getElem_cons_succ]
  go_simp
  refine hK.out _ _ ⟨x4, p4, trivial, trivial⟩ (fun hHeld => ?_)
  clear hK K
  try simp only [Act.put, List.setIfInBounds_toArray, List.set_cons_zero, List.set_cons_succ]
  refine heldT_take 9 (v := ?_) (by simp) (by kernel_rfl) (by kernel_rfl) (by kernel_rfl) (by kernel_rfl) (fun _ _ _ h => h) (Or.inl ⟨by rfl, ?_⟩) hHeld ?_
  case refine_2 => (intro w hSw; (try dsimp only at hSw); (try (obtain ⟨s0, s1, s2, s3⟩ := hSw)); simp only [List.getElem_cons_zero, List.getElem_cons_succ]; go_simp <;> with_reducible rfl)
  simp only [List.getElem_cons_zero, List.getElem_cons_succ, Act.put, List.setIfInBounds_toArray, List.set_cons_zero, List.set_cons_succ]
  refine heldT_last (t := 10) (by simp) (by kernel_rfl) (by kernel_rfl) (fun K hK => ?_)
  simp only [List.getElem_cons_zero, List.getElem_cons_succ]
  go_simp
  refine hK.out _ _ ?_
  clear hK K hHeld
  have hLN : Hid (l.length ≤ 1640000 ∧ 0 < l.length) := Lib.hid hpl2
  have KX4 := Lib.hid (show Blk (w3.setCell ⟨g, 4, none⟩ (.slice A3 l.length c3)) g 113 #[.int .i64 i, .int .i64 t, .int .i64 m, .int .i64 0, .slice A3 l.length c3] from Blk.set_ KX3 4 _)
  have HV4 := Lib.hid (show Bs (w3.setCell ⟨g, 4, none⟩ (.slice A3 l.length c3)) (g + 1) (.slice A3 l.length c3) l from Own.far HV3.out (grown_setCell w3 g 4 _) (by omega))
  have KP4 := Lib.hid (Blk.far (p := ⟨g, 4, none⟩) KP3 (by show w.heap.size ≠ g; omega) (.slice A3 l.length c3))
  have KZ4 := Lib.hid (Blk.far (p := ⟨g, 4, none⟩) KZ3 (by show w.heap.size + 1 ≠ g; omega) (.slice A3 l.length c3))
  have HBUT4 := Lib.hid (HBUT3.set (g := g) rfl 4 (.slice A3 l.length c3))
  have hs4 : w.heap.size + 3 ≤ (w3.setCell ⟨g, 4, none⟩ (.slice A3 l.length c3)).heap.size := by simp; omega
  generalize hW4 : w3.setCell ⟨g, 4, none⟩ (.slice A3 l.length c3) = w4 at KX4 HV4 KP4 KZ4 HBUT4 hs4 ⊢
  clear hW4 KX3 KP3 KZ3 HBUT3 HV3 hs3 hbk HV KX KP KZ HBUT HNX x0 x1 x2 x3 x4 y0 y1 y2 y3 y4 p0 p1 p2 p3 p4 hs2
  obtain ⟨x0, x1, x2, x3, x4, y0, y1, y2, y3, y4⟩ := blk5_at KX4.out
  have KX5 := Lib.hid (show Blk (w4.setCell ⟨g, 3, none⟩ (.int .i64 1)) g 113 #[.int .i64 i, .int .i64 t, .int .i64 m, .int .i64 1, .slice A3 l.length c3] from Blk.set_ KX4.out 3 _)
  have HV5 := Lib.hid (show Bs (w4.setCell ⟨g, 3, none⟩ (.int .i64 1)) (g + 1) (.slice A3 l.length c3) l from Own.far HV4.out (grown_setCell w4 g 3 _) (by omega))
  have KP5 := Lib.hid (Blk.far (p := ⟨g, 3, none⟩) KP4.out (by show w.heap.size ≠ g; omega) (.int .i64 1))
  have KZ5 := Lib.hid (Blk.far (p := ⟨g, 3, none⟩) KZ4.out (by show w.heap.size + 1 ≠ g; omega) (.int .i64 1))
  have HBUT5 := Lib.hid (HBUT4.out.set (g := g) rfl 3 (.int .i64 1))
  have hs5 : w.heap.size + 3 ≤ (w4.setCell ⟨g, 3, none⟩ (.int .i64 1)).heap.size := by simp; omega
  go_upto_region 10 with fail
  generalize hW5 : w4.setCell ⟨g, 3, none⟩ (.int .i64 1) = w5 at KX5 HV5 KP5 KZ5 HBUT5 hs5 ⊢
  clear hW5 KX4 KP4 KZ4 HBUT4 HV4 hs4 x0 x1 x2 x3 x4 y0 y1 y2 y3 y4
  obtain ⟨x0, x1, x2, x3, x4, y0, y1, y2, y3, y4⟩ := blk5_at KX5.out
  go_quiet (fail)
  have KX6 : Blk (w5.drewN nq) g 113 _ := KX5.out
  have KP6 := Lib.hid (show Blk (w5.drewN nq) w.heap.size 71 _ from KP5.out)
  have KZ6 := Lib.hid (show Blk (w5.drewN nq) (w.heap.size + 1) 59 _ from KZ5.out)
  have HV6 := Lib.hid (show Bs (w5.drewN nq) (g + 1) (.slice A3 l.length c3) l from HV5.out)
  have HBUT6 := Lib.hid (HBUT5.out.then_ (below_drewN (Below.refl _ w5) nq))
  have hs6 : w.heap.size + 3 ≤ (w5.drewN nq).heap.size := hs5
  generalize hW6 : w5.drewN nq = w6 at KX6 HV6 KP6 KZ6 HBUT6 hs6 ⊢
  clear hW6 KX5 KP5 KZ5 HBUT5 HV5 hs5 x0 x1 x2 x3 x4 y0 y1 y2 y3 y4
  have KX6 := Lib.hid KX6
  by_cases hlt : 1 < m
  · obtain ⟨e0, e1, e2, e3, f0, f1, f2, f3⟩ := blk4_cells KZ6.out
    have KF := Lib.hid ((((Blk.set_ KZ6.out 0 (.int .i64 0)).set_ 1 (.int .i64 0)).set_ 2 (.slice none 0 0)).set_ 3 (.slice none 0 0))
    have hZ4 := Lib.hid (grown_z4 w6 (w.heap.size + 1) (.int .i64 0) (.int .i64 0) (.slice none 0 0) (.slice none 0 0))
    have HE : Hid (endB s i t 0 m l = false ∧ putE s i t 0 m l = 0 ∧ putS s i t 0 m l = ⟨i, t, m, 1, l⟩) := Lib.hid (by simpa using put_more HOKB.out HPB.out (by omega))
    have HKX := Lib.hid (KX6.out.grown hZ4.out (fun e => by injection e with e; omega))
    have HHV := Lib.hid (Own.kept HV6.out hZ4.out (.inr (fun e => by have := HQ3.out _ e; omega)))
    have HFIN := Lib.hid (HBUT6.out.grown hZ4.out (fun q hq => .inr (by injection hq with hq; omega)))
    clear hZ4 KX6 KZ6 KP6 HV6 HBUT6
    (try clear hl); (try clear hr); (try clear hAg); (try clear hpl); (try clear hpl2); (try clear hbl); (try clear hc3); (try clear hm3); (try clear hs); (try clear hv1); (try clear hv2); (try clear hnb1); (try clear hnb2); (try clear hm64); (try clear hn1)
    go_wp2_with fail
    refine bodyPost_ret (results_snap2 (fn := Try.f60) rfl _ _ (w.heap.size + 1) _ _ _ _ rfl KF.out) rfl ?_
    obtain ⟨h1, h2, h3⟩ := HE.out
    exact PutPost.mk0 (s' := ⟨i, t, m, 1, l⟩) h1 h2 h3 ⟨HKX.out, HHV.out⟩ HFIN.out HN3.out
  · obtain ⟨x0, x1, x2, x3, x4, y0, y1, y2, y3, y4⟩ := blk5_at KX6.out
    have HE : Hid (endB s i t 0 m l = sameB l i t ∧ putE s i t 0 m l = (if sameB l i t = true then 0 else 54) ∧ putS s i t 0 m l = inb0) := Lib.hid (put_end HOKB.out HPB.out (by omega))
    clear HOKB
    go_wp2_with fail
    refine (read_any A3 l _ c3 rfl w6 (own_rd HV6.out) hc3 (by have := hLN.out; omega) hm3).mono ?_
    rintro e w7 ⟨V, rfl, hV, hb7⟩
    obtain ⟨vx, vy, rfl, hvx, hvy, hvxy⟩ := hV
    obtain ⟨Avx, cvx, rfl, -⟩ := is_shape hvx
    obtain ⟨Avy, cvy, rfl, -⟩ := bs_shape hvy
    have hs7 : w.heap.size + 3 ≤ w7.heap.size := Nat.le_trans hs6 hb7.size
    have KX7 := KX6.out.below hb7 (by omega)
    have KP7 := KP6.out.below hb7 (by omega)
    have KZ7 := KZ6.out.below hb7 (by omega)
    have HBUT7 := HBUT6.out.then_ hb7
    have HVXY := Lib.hid hvxy
    clear hb7 KX6 KP6 KZ6 HBUT6 HV6 hvxy x0 x1 x2 x3 x4 y0 y1 y2 y3 y4
    have hbV : Below w7.heap.size w7 (w7.alloc (.cells #[.int .i64 (oI l), .int .i64 (oT l), .slice Avx (oZ l).length cvx, .slice Avy (oD l).length cvy] 59)) := (Below.refl _ w7).alloc (Nat.le_refl _) _
    have KV8 := Lib.hid (Blk.new w7 59 #[.int .i64 (oI l), .int .i64 (oT l), .slice Avx (oZ l).length cvx, .slice Avy (oD l).length cvy])
    have KX8 := KX7.below hbV (by omega)
    have KP8 := KP7.below hbV (by omega)
    have KZ8 := KZ7.below hbV (by omega)
    have HBUT8 := HBUT7.then_ hbV
    have HVX8 := Own.below hvx hbV (Nat.le_refl _)
    have HVY8 := Own.below hvy hbV (Nat.le_refl _)
    obtain ⟨x0, x1, x2, x3, x4, y0, y1, y2, y3, y4⟩ := blk5_at KX8
    have hZ5 := grown_z5 (w7.alloc (.cells #[.int .i64 (oI l), .int .i64 (oT l), .slice Avx (oZ l).length cvx, .slice Avy (oD l).length cvy] 59)) g (.int .i64 0) (.int .i64 0) (.int .i64 0) (.int .i64 0) (.slice none 0 0)
    have KX9 := Lib.hid (blk_z5 KX8 (.int .i64 0) (.int .i64 0) (.int .i64 0) (.int .i64 0) (.slice none 0 0))
    have KP9 := Lib.hid (KP8.grown hZ5 (fun e => by injection e with e; omega))
    have KZ9 := Lib.hid (KZ8.grown hZ5 (fun e => by injection e with e; omega))
    have KV9 := Lib.hid (KV8.out.grown hZ5 (fun e => by injection e with e; omega))
    have HBUT9 := Lib.hid (HBUT8.bump hZ5)
    have HVX9 := Lib.hid (Own.far HVX8 hZ5 (by omega))
    have HVY9 := Lib.hid (Own.far HVY8 hZ5 (by omega))
    clear hZ5 hbV KX7 KP7 KZ7 HBUT7 KX8 KP8 KZ8 HBUT8 HVX8 HVY8 hvx hvy KV8
    go_upto_region 14 with fail
    generalize hW9 : World.setCell _ ⟨g, 4, none⟩ (.slice none 0 0) = w9 at KX9 KP9 KZ9 KV9 HBUT9 HVX9 HVY9 ⊢
    clear hW9 x0 x1 x2 x3 x4 y0 y1 y2 y3 y4
    obtain ⟨p0, p1, p2, p3, p4, _, _, _, _, _⟩ := blk5_at KP9.out
    obtain ⟨q0, q1, q2, q3, _, _, _, _⟩ := blk4_cells KV9.out
    obtain ⟨e0, e1, e2, e3, f0, f1, f2, f3⟩ := blk4_cells KZ9.out
    by_cases hsm : sameB l i t = true
    · obtain ⟨s1, s2, s3⟩ := sameB_true hsm
      have HSM := Lib.hid hsm
      have HS23 := Lib.hid (And.intro s2 s3)
      rw [s1]
      rw [s2] at q0
      rw [s3] at q1
      have hz := grown_z4 w9 (w.heap.size + 1) (.int .i64 i) (.int .i64 t) (.slice Avx (oZ l).length cvx) (.slice Avy (oD l).length cvy)
      have KF := Lib.hid (blk_z4 KZ9.out (.int .i64 i) (.int .i64 t) (.slice Avx (oZ l).length cvx) (.slice Avy (oD l).length cvy))
      have HKX := Lib.hid (KX9.out.grown hz (fun e => by injection e with e; omega))
      have HFIN := Lib.hid (HBUT9.out.grown hz (fun q hq => .inr (by injection hq with hq; omega)))
      have HX10 := Lib.hid (Own.far HVX9.out hz (by omega))
      have HY10 := Lib.hid (Own.far HVY9.out hz (by omega))
      clear hz hsm s1 s2 s3 KX9 KP9 KZ9 KV9 HBUT9 HVX9 HVY9
      (try clear hl); (try clear hr); (try clear hAg); (try clear hpl); (try clear hpl2); (try clear hbl); (try clear hc3); (try clear hm3); (try clear hs); (try clear hv1); (try clear hv2); (try clear hnb1); (try clear hnb2); (try clear hm64); (try clear hn1); (try clear hlt)
      go_wp2_with fail
      refine bodyPost_ret (results_snap2 (fn := Try.f60) rfl _ _ (w.heap.size + 1) _ _ _ _ rfl KF.out) rfl ?_
      obtain ⟨h1, h2, h3⟩ := HE.out
      rw [HSM.out] at h1 h2
      rw [if_pos rfl] at h2
      exact PutPost.mk' (s' := inb0) (v' := .slice none 0 0) h1 h2 h3 (by rw [HPB.out]; exact HS23.out.1) (by rw [HPB.out]; exact HS23.out.2) (by rw [HPB.out]; rfl) (by rw [HPB.out]; rfl) ⟨_, _, rfl, Own.mono HX10.out (by omega), Own.mono HY10.out (by omega), HVXY.out⟩ ⟨HKX.out, Own.nil _ _ _⟩ HFIN.out (fun q hq => by simp [Value.ownBlock] at hq) (fun _ => rfl) (fun h => by cases h)
    · have hsm' : sameB l i t = false := by simpa using hsm
      have HSM := Lib.hid hsm'
      have hz := grown_z4 w9 (w.heap.size + 1) (.int .i64 0) (.int .i64 0) (.slice none 0 0) (.slice none 0 0)
      have KF := Lib.hid (blk_z4 KZ9.out (.int .i64 0) (.int .i64 0) (.slice none 0 0) (.slice none 0 0))
      have HKX := Lib.hid (KX9.out.grown hz (fun e => by injection e with e; omega))
      have HFIN := Lib.hid (HBUT9.out.grown hz (fun q hq => .inr (by injection hq with hq; omega)))
      have hcase : oE l = 4 ∨ oE l = 0 ∧ oI l ≠ i ∨ oE l = 0 ∧ oI l = i ∧ oT l ≠ t := by
        unfold sameB at hsm'
        by_cases hr : readB l = true
        · simp only [hr, Bool.true_and, Bool.and_eq_false_iff, decide_eq_false_iff_not] at hsm'
          by_cases h4 : rI l = i
          · exact .inr (.inr ⟨by simp [oE, hr], by simp [oI, hr, h4], by simp [oT, hr]; rcases hsm' with h5 | h5; exact absurd h4 h5; exact h5⟩)
          · exact .inr (.inl ⟨by simp [oE, hr], by simpa [oI, hr] using h4⟩)
        · exact .inl (by simp [oE, hr])
      clear hz hsm hsm' KX9 KP9 KZ9 KV9 HBUT9 HVX9 HVY9
      (try clear hl); (try clear hr); (try clear hAg); (try clear hpl); (try clear hpl2); (try clear hbl); (try clear hc3); (try clear hm3); (try clear hs); (try clear hv1); (try clear hv2); (try clear hnb1); (try clear hnb2); (try clear hm64); (try clear hn1); (try clear hlt)
      rcases hcase with h4 | ⟨h4, h5⟩ | ⟨h4, h5, h6⟩
      · rw [h4]
        clear h4
        go_wp2_with fail
        refine bodyPost_ret (results_snap2 (fn := Try.f60) rfl _ _ (w.heap.size + 1) _ _ _ _ rfl KF.out) rfl ?_
        obtain ⟨h1, h2, h3⟩ := HE.out
        rw [HSM.out] at h1 h2
        exact PutPost.mk0 (s' := inb0) (v' := .slice none 0 0) h1 h2 h3 ⟨HKX.out, Own.nil _ _ _⟩ HFIN.out (fun q hq => by simp [Value.ownBlock] at hq)
      · rw [h4]
        have h7 : (oI l != i) = true := by simpa using h5
        clear h4 h5
        go_wp2_with fail
        refine bodyPost_ret (results_snap2 (fn := Try.f60) rfl _ _ (w.heap.size + 1) _ _ _ _ rfl KF.out) rfl ?_
        obtain ⟨h1, h2, h3⟩ := HE.out
        rw [HSM.out] at h1 h2
        exact PutPost.mk0 (s' := inb0) (v' := .slice none 0 0) h1 h2 h3 ⟨HKX.out, Own.nil _ _ _⟩ HFIN.out (fun q hq => by simp [Value.ownBlock] at hq)
      · rw [h4]
        rw [h5] at q0
        have h7 : (oT l != t) = true := by simpa using h6
        clear h4 h5 h6
        go_wp2_with fail
        refine bodyPost_ret (results_snap2 (fn := Try.f60) rfl _ _ (w.heap.size + 1) _ _ _ _ rfl KF.out) rfl ?_
        obtain ⟨h1, h2, h3⟩ := HE.out
        rw [HSM.out] at h1 h2
        exact PutPost.mk0 (s' := inb0) (v' := .slice none 0 0) h1 h2 h3 ⟨HKX.out, Own.nil _ _ _⟩ HFIN.out (fun q hq => by simp [Value.ownBlock] at hq)
end Go.Proofs.Ytelplpajpfkfiaa
