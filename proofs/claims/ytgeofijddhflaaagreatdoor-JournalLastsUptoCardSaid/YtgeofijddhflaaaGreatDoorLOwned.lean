/- The statements' own helper Owned: rows of bytes, each in a block of its own, are written over without another one changing. Condition: no two rows lie in one block. -/
import Derived.Test.YtgeofijddhflaaaGreatDoorLHeldS
import Derived.Test.YtgeofijddhflaaaGreatDoorChecked
import Derived.WalkLawsBesides
import Derived.BigQuiet
import Derived.StillTailTactics
set_option linter.unusedVariables false
set_option linter.unusedSimpArgs false
set_option maxHeartbeats 8000000
set_option maxRecDepth 100000
namespace Go.Proofs.YtgeofijddhflaaaGreatDoor
section
open Go.RowKit Oct
theorem aG0 : (Tryz.prog.info? 5).map (fun i => (i.zero, i.size, i.bytes)) = some (some (.int .u8 0), 1, 1) := by kernel_rfl
abbrev Bs (w : World) (base : Nat) (v : Value) (l : List UInt8) : Prop := Own w base 5 v (cells l)
theorem aD5 {w : World} {base : Nat} {v : Value} {l : List UInt8} (h : Bs w base v l) : ∃ A c, v = .slice A l.length c ∧ l.length <= c ∧ c <= 9223372036854775807 ∧ Rd w w.heap.size A (cells l) := by
 obtain ⟨A, c, hv, hc, hm, hr⟩ := Own.shape h;rw [aA2] at hv hc;exact ⟨A, c, hv, hc, by unfold maxLen at hm; omega, hr⟩
theorem bN0 {w : World} {B : Nat} {A : Option Addr} {l : List UInt8} (c : Nat) (h : Rd w B A (cells l)) : (convert 34 9 (.slice A l.length c)).run Tryz.prog w = .ok (.string (str l)) w :=
 dK9 34 9 5 Tryz.underlying34 Tryz.underlying5 Tryz.underlying9 _ c rfl h
theorem dD7 (n j : Nat) : bits .or .u8 ((n : Int) / 2 ^ (7 * j) % 256) 128 = ((dig7 (n / 128 ^ j)).toNat : Int) := by
 unfold dig7;rw [bU5, <- Int.natCast_ediv, aO3 _ (by omega), <- cW8, u8_or _ _ (by omega) (by omega) (by omega) (by omega)]
 congr 1
theorem bE3 (n : Nat) : bits .andNot .u8 ((n : Int) % 256) 128 = ((low7 n).toNat : Int) := by
 unfold low7;rw [aO3 _ (by omega), u8_andNot _ _ (by omega) (by omega) (by omega) (by omega)];have h : ∀ x : Fin 256, x.val &&& 127 = x.val % 128 := by decide +kernel
 have := h ⟨n % 256, Nat.mod_lt _ (by omega)⟩;simp only at this;have e1 : ((n : Int) % 256).toNat = n % 256 := by omega
 rw [e1];show (((n % 256) &&& 127 : Nat) : Int) = _
 omega
theorem cF4 (v : Value) (l : List UInt8) (n : Nat) (base : Nat) (w : World) (hn : n < 2^64) (hl : l.length + 11 <= 140737488355328) (hb : base <= w.heap.size)
  (g8 : Bs w base v l) :
  Calls Tryz.prog 157 #[v, .int .u64 n] w fun e w' => ∃ v', e = .returned v' ∧ Bs w' base v' (l ++ enc n) ∧ w.grownBy w' v.ownBlock ∧ aS5 v' v.ownBlock w.heap.size := by
 have Hn := qZ hn;clear hn;go_enter Tryz.func157, Tryz.ntmps157
 go_wp2;go_loop [5] (fun s => ∃ k : Nat, k <= 9 ∧ s = .int .i64 (7 * k : Nat) ∧ Big n k) (fun s => 64 - (intOf s).toNat)
 case atStart => exact ⟨0, by omega, rfl, .inl rfl⟩
 obtain ⟨k, hk, rfl, i2⟩ := hrel;go_wp2
 ·have d8 : (128 : Int) <= (n : Int) / 2 ^ (7 * k) := by assumption
  have i6 : k < 9 := dF0 Hn.out d8;have hB : Big n (k + 1) := .inr (by rw [Nat.add_sub_cancel]; exact dH2 d8);go_round
  case rel => exact ⟨k + 1, by omega, by go_num, hB⟩
  case measure => simp [intOf]; omega
 have i4 : (n : Int) / 2 ^ (7 * k) < 128 := by assumption
 have f9 := cM0 i4;go_loopw [0, 5] (fun b s wr => ∃ j : Nat, j <= k ∧ s = .int .i64 (7 * j : Nat) ∧ Bs wr base b (l ++ bS6 (n / 128 ^ (j + 1))) ∧ w.grownBy wr v.ownBlock ∧ aS5 b v.ownBlock w.heap.size) (fun _ s _ => (intOf s).toNat)
 case atStart => exact ⟨k, lR _, rfl, by rw [f9, List.append_nil]; exact g8, World.grownBy.refl _ _, .inl rfl⟩
 clear f9;obtain ⟨j, hj, rfl, a8, f8, b8⟩ := hrel;have i3 : (l ++ bS6 (n / 128 ^ (j + 1))).length <= l.length + 10 := by
  have := cI4 (n / 128 ^ (j + 1)) 10 (by have := Hn.out; have : n / 128 ^ (j + 1) <= n := Nat.div_le_self _ _; omega);simp; omega
 have g9 := f8.size;by_cases h0 : 0 < j
 ·have f9 := cS1 i2 hj h0
  have i1 := qZ f9;clear f9;go_wp2_with (at_builtin; refine aZ4 rfl (.tmp 16) (.tmp 22) 34 rfl base 5 (.int .u8 0) 1 Tryz.underlying34 aG0 rfl _ _ _ _ (congrArg (Value.int .u8) (dD7 n j)) rfl a8 rfl rfl (by rw [aA2]; omega) (by rw [aA2]; omega) (by omega) ?_)
  intro v' w1 a7 f7 e9;have a9 : Bs w1 base v' (l ++ bS6 (n / 128 ^ j)) := by rw [i1.out, <- List.append_assoc]; unfold Bs; rw [aN7]; exact a7
  have g7 := aB8 f8 f7 b8;have g6 := bP8 b8 e9 g9;clear a7 f7 e9 a8 f8 b8;go_wp2;go_roundw
  case rel => exact ⟨j - 1, by omega, by go_num, by rw [show j - 1 + 1 = j by omega]; exact a9, g7, g6⟩
  case measure => simp [intOf]; omega
 obtain rfl : j = 0 := by omega
 go_wp2_with (at_builtin; refine aZ4 rfl (.tmp 24) (.tmp 28) 34 rfl base 5 (.int .u8 0) 1 Tryz.underlying34 aG0 rfl _ _ _ _ (congrArg (Value.int .u8) (bE3 n)) rfl a8 rfl rfl (by rw [aA2]; omega) (by rw [aA2]; omega) (by omega) ?_)
 intro v' w1 a7 f7 e9;have g7 := aB8 f8 f7 b8;have g6 := bP8 b8 e9 g9;have a9 : Bs w1 base v' (l ++ enc n) := by
  unfold Bs enc;rw [<- List.append_assoc, aN7];exact a7
 clear a7 f7 e9 a8 f8 b8;go_wp2;go_ret
 exact ⟨v', rfl, a9, g7, g6⟩
end
section
open Go.RowKit Oct
theorem dG5 (n : Int) (w : World) (h : n < 0) :
  Calls Tryz.prog 115 #[.int .i64 n] w fun e w' => e = .returned (.tuple #[.slice none 0 0, .int .i64 1]) ∧ w = w' := by
 go_enter Tryz.func115, Tryz.ntmps115
 go_wp2;go_ret2
 exact ⟨rfl, rfl⟩
theorem cL2 (n : Nat) (w : World) (h : n <= 9223372036854775807) :
  Calls Tryz.prog 115 #[.int .i64 n] w fun e w' => ∃ v, e = .returned (.tuple #[v, .int .i64 0]) ∧ Bs w' w.heap.size v (enc n) ∧ Below w.heap.size w w' := by
 go_enter Tryz.func115, Tryz.ntmps115
 go_wp2_with fail
 refine (cF4 (.slice none 0 0) [] n w.heap.size w (by omega) (by simp) (lR _) (Own.nil _ _ _)).mono ?_;rintro e w1 ⟨v, rfl, a7, hg, _⟩;have hb := aG5 hg;clear hg;go_wp2;go_ret2
 exact ⟨v, rfl, a7, hb⟩
theorem dL6 (n : Nat) (M : Int) (hM : M = (n : Int)) (w : World) (h : n <= 9223372036854775807) :
  Calls Tryz.prog 115 #[.int .i64 M] w fun e w' => ∃ v, e = .returned (.tuple #[v, .int .i64 0]) ∧ Bs w' w.heap.size v (enc n) ∧ Below w.heap.size w w' := by
 subst hM;exact cL2 n w h
end
section
open Go.RowKit Oct
abbrev Tk (w : World) (g : Nat) (a e : Int) (s : Value) : Prop := Blk w g 220 #[.int .i64 a, .int .i64 e, s]
theorem aG9 {w : World} {g : Nat} {a e : Int} {s : Value} (h : Tk w g a e s) :
  w.cell? ⟨g, 0, none⟩ = some (.int .i64 a) ∧ w.cell? ⟨g, 1, none⟩ = some (.int .i64 e) ∧ w.cell? ⟨g, 2, none⟩ = some s ∧ w.frozen? ⟨g, 0, none⟩ = false ∧ w.frozen? ⟨g, 1, none⟩ = false :=
 ⟨h.cell 0, h.cell 1, h.cell 2, h.frozen 0, h.frozen 1⟩
theorem dN6 (g : Nat) (a e n m : Int) (s : Value) (w : World) (h : Tk w g a e s) (he : e ≠ 0) :
  Calls Tryz.prog 205 #[.pointer (some ⟨g, 0, none⟩), .int .i64 n, .int .i64 m] w fun e' w' => e' = .returned (.bool false) ∧ w = w' := by
 obtain ⟨h0, h1, h2, f0, f1⟩ := aG9 h;clear h;have a7 : (e == 0) = false := by simpa using he
 go_enter Tryz.func205, Tryz.ntmps205
 go_wp2;go_ret
 exact ⟨rfl, rfl⟩
theorem dH4 (g : Nat) (a n m : Int) (s : Value) (w : World) (h : Tk w g a 0 s) (hn : m - a < n) (b1 : -4611686018427387904 <= m - a) (b2 : m - a <= 4611686018427387904) :
  Calls Tryz.prog 205 #[.pointer (some ⟨g, 0, none⟩), .int .i64 n, .int .i64 m] w fun e' w' => e' = .returned (.bool false) ∧ Tk w' g a 3 s ∧ w.grownBy w' (some g) := by
 obtain ⟨h0, h1, h2, f0, f1⟩ := aG9 h;have a7 : Tk (w.setCell ⟨g, 1, none⟩ (.int .i64 3)) g a 3 s ∧ w.grownBy (w.setCell ⟨g, 1, none⟩ (.int .i64 3)) (some g) := ⟨h.set_ 1 _, aA0 _ _ _ _⟩;clear h;go_enter Tryz.func205, Tryz.ntmps205
 go_wp2;go_ret
 exact ⟨rfl, a7⟩
theorem dN7 (g : Nat) (a n m : Int) (s : Value) (w : World) (h : Tk w g a 0 s) (hn : n <= m - a) (b1 : -4611686018427387904 <= m - a) (b2 : m - a <= 4611686018427387904) (b3 : 0 <= a) (b4 : 0 <= n) (b5 : m <= 4611686018427387904) :
  Calls Tryz.prog 205 #[.pointer (some ⟨g, 0, none⟩), .int .i64 n, .int .i64 m] w fun e' w' => e' = .returned (.bool true) ∧ Tk w' g (a + n) 0 s ∧ w.grownBy w' (some g) := by
 obtain ⟨h0, h1, h2, f0, f1⟩ := aG9 h;have a7 : Tk (w.setCell ⟨g, 0, none⟩ (.int .i64 (a + n))) g (a + n) 0 s ∧ w.grownBy (w.setCell ⟨g, 0, none⟩ (.int .i64 (a + n))) (some g) := ⟨h.set_ 0 _, aA0 _ _ _ _⟩;clear h;go_enter Tryz.func205, Tryz.ntmps205
 go_wp2;go_ret
 exact ⟨rfl, a7⟩
theorem cZ7 (g : Nat) (a e c : Int) (b : Bool) (s : Value) (w : World) (h : Tk w g a e s) (he : e ≠ 0) :
  Calls Tryz.prog 211 #[.pointer (some ⟨g, 0, none⟩), .bool b, .int .i64 c] w fun e' w' => e' = .returned (.bool true) ∧ w = w' := by
 obtain ⟨h0, h1, h2, f0, f1⟩ := aG9 h;clear h;have a7 : (e == 0) = false := by simpa using he
 have a8 : (e != 0) = true := by simpa using he
 go_enter Tryz.func211, Tryz.ntmps211
 go_wp2;go_ret
 exact ⟨rfl, rfl⟩
theorem bB6 (g : Nat) (a c : Int) (s : Value) (w : World) (h : Tk w g a 0 s) :
  Calls Tryz.prog 211 #[.pointer (some ⟨g, 0, none⟩), .bool false, .int .i64 c] w fun e' w' => e' = .returned (.bool false) ∧ w = w' := by
 obtain ⟨h0, h1, h2, f0, f1⟩ := aG9 h;clear h;go_enter Tryz.func211, Tryz.ntmps211
 go_wp2;go_ret
 exact ⟨rfl, rfl⟩
theorem aS4 (g : Nat) (a c : Int) (s : Value) (w : World) (h : Tk w g a 0 s) (hc : c ≠ 0) :
  Calls Tryz.prog 211 #[.pointer (some ⟨g, 0, none⟩), .bool true, .int .i64 c] w fun e' w' => e' = .returned (.bool true) ∧ Tk w' g a c s ∧ w.grownBy w' (some g) := by
 obtain ⟨h0, h1, h2, f0, f1⟩ := aG9 h;have a7 : Tk (w.setCell ⟨g, 1, none⟩ (.int .i64 c)) g a c s ∧ w.grownBy (w.setCell ⟨g, 1, none⟩ (.int .i64 c)) (some g) := ⟨h.set_ 1 _, aA0 _ _ _ _⟩;clear h;have a8 : (c != 0) = true := by simpa using hc
 go_enter Tryz.func211, Tryz.ntmps211
 go_wp2;go_ret
 exact ⟨rfl, a7⟩
def cB7 (a e : Int) : Int := if e = 0 then a else 0
theorem cL3 (g : Nat) (a e : Int) (s : Value) (w : World) (h : Tk w g a e s) :
  Calls Tryz.prog 187 #[.pointer (some ⟨g, 0, none⟩)] w fun e' w' => e' = .returned (.int .i64 (cB7 a e)) ∧ w' = w := by
 obtain ⟨h0, h1, h2, f0, f1⟩ := aG9 h;clear h;by_cases he : e = 0
 ·subst he
  rw [show cB7 a 0 = a from rfl];go_enter Tryz.func187, Tryz.ntmps187
  go_wp2;go_ret
  exact ⟨rfl, rfl⟩
 have a7 : (e != 0) = true := by simpa using he
 rw [show cB7 a e = 0 from if_neg he];go_enter Tryz.func187, Tryz.ntmps187
 go_wp2;go_ret
 exact ⟨rfl, rfl⟩
end
section
section
variable {P : Program} {ops : Array Oper} {md : Region.Mode} {C : World -> Prop}
def dM4 (P : Program) (md : Region.Mode) (ops : Array Oper) (C : World -> Prop) (n : Nat) (L : Array Bool -> Act -> Prop) : Nat -> Array Bool -> Act -> Prop
 | 0, listed, a => L listed a
 | f + 1, listed, a => Region.ready md ops listed ≠ [] ∧ ∀ i ∈ Region.ready md ops listed, i < n ∧ qOp P ops C i (dM4 P md ops C n L f (listed.setIfInBounds i true)) a
theorem bI3 {n g : Nat} {L : Array Bool -> Act -> Prop} {Q' : Exit -> Act -> World -> Prop} (hL : ∀ listed a w, C w -> L listed a -> wpAny P md ops Q' g listed a w) :
  ∀ (f : Nat) (listed : Array Bool) (a : Act) (w : World), C w -> dM4 P md ops C n L f listed a -> wpAny P md ops Q' (f + g) listed a w
 | 0, listed, a, w, hw, h => by rw [Nat.zero_add]; exact hL _ _ _ hw h
 | f + 1, listed, a, w, hw, h => by
  rw [show f + 1 + g = (f + g) + 1 by omega];exact ⟨fun h0 => absurd h0 h.1, fun i hi => wpOp_of_qOp hw (fun a' w' hw' h' => bI3 hL f _ a' w' hw' h') (h.2 i hi).2⟩
theorem cL5 {n i : Nat} {oi : Oper} {v : Value} {L : Array Bool -> Act -> Prop} (hi : ops[i]? = some oi) (e9 : ∀ (j : Nat) (o : Oper) cs b, ops[j]? = some o -> o.op ≠ .select cs b)
  (hs : Region.sinkB md ops n = true) (hc : Region.chainB md ops n = true) (hn : n < ops.size) (g9 : i < n)
  (b8 : ∀ a7 a, L a7 a -> ∀ j ∈ Region.ready md ops a7, n <= j) :
  ∀ (f : Nat) (a7 : Array Bool) (a : Act), HeadInv md ops n a7 →
   (∀ j oj, ops[j]? = some oj -> j ≠ i -> a7.getD j true = false -> (∀ e ∈ oj.after, Region.binds md e = true -> e.on ≠ i) -> oi.apart ops oj = true) →
   i ∈ Region.ready md ops a7 -> YieldsIn P ops C oi v a →
   dM4 P md ops C n L f (a7.setIfInBounds i true) (a.put oi.dst v) -> dM4 P md ops C n L (f + 1) a7 a := by
 intro f;induction f with
 | zero =>
  intro a7 a f9 _ hr hy H;refine ⟨fun h => (by rw [h] at hr; cases hr), fun j hj => ?_⟩;have f8 : j < n := by
   rcases Nat.lt_or_ge j n with h | h
   ·exact h
   exact absurd hj (tail_waits hs hc hn f9 _ i rfl g9 (mem_ready.1 hr).1 j h)
  refine ⟨f8, ?_⟩;by_cases hji : j = i
  ·subst hji; exact hy.qOp hi H
  have := b8 _ _ H j (ready_mono hj hji);omega
 | succ f ih =>
  intro a7 a f9 a8 hr hy H;have f7 := (mem_ready.1 hr).1;refine ⟨fun h => (by rw [h] at hr; cases hr), fun j hj => ?_⟩;have f8 : j < n := by
   rcases Nat.lt_or_ge j n with h | h
   ·exact h
   exact absurd hj (tail_waits hs hc hn f9 _ i rfl g9 f7 j h)
  refine ⟨f8, ?_⟩;by_cases hji : j = i
  ·subst hji; exact hy.qOp hi H
  have h1 := (H.2 j (ready_mono hj hji)).2;obtain ⟨d8, oj, g8, g6⟩ := mem_ready.1 hj;have g7 : ∀ e ∈ oj.after, Region.binds md e = true -> e.on ≠ i := fun e he hb heq => by
   have h1 := g6 e he hb;rw [heq, getD_both f7] at h1;cases h1
  have h2 := qOp_put g8 (a8 j oj g8 hji d8 g7) (fun cs b => e9 i oi cs b hi) (fun cs b => e9 j oj cs b g8) hy h1;have a9 : ∀ k ok, ops[k]? = some ok -> k ≠ i -> (a7.setIfInBounds j true).getD k true = false →
    (∀ e ∈ ok.after, Region.binds md e = true -> e.on ≠ i) -> oi.apart ops ok = true := fun k ok hk hki f7 hno => by
   refine a8 k ok hk hki ?_ hno;by_cases hjk : j = k
   ·subst hjk; exact d8
   rw [getD_set_ne true hjk] at f7; exact f7
  refine qOp_mono (fun a' h3 => ih (a7.setIfInBounds j true) a' (f9.set hj f8) a9 (ready_mono hr (Ne.symm hji)) h3.1 ?_) h2;rw [Array.setIfInBounds_comm _ _ hji];exact h3.2
theorem cH5 {n g : Nat} {Lq : Act -> Prop} (hsel : Region.noSelect ops = true) (hs : Region.sinkB md ops n = true) (hc : Region.chainB md ops n = true) (hn : n < ops.size) :
  ∀ (l : List Oper) (k : Nat) (listed : Array Bool) (a : Act), (∀ j, j < l.length -> l[j]? = ops[k + j]?) -> k + l.length = n -> HeadInv md ops n listed →
  Region.lexHead md ops g l.length k listed = true -> wpQuiet P ops C Lq l a →
  dM4 P md ops C n (fun listed' a' => Region.seqB md ops g n listed' = true ∧ Lq a') l.length listed a
 | [], k, listed, a, _, hk, _, hB, h => by
  have : k = n := by simpa using hk
  subst this;exact ⟨by simpa [Region.lexHead] using hB, h⟩
 | o :: l, k, listed, a, hl, hk, inv, hB, h => by
  have h0 : ops[k]? = some o := by simpa using (hl 0 (by simp)).symm
  simp only [mC, Region.lexHead, Bool.and_eq_true] at hB;obtain ⟨⟨hr, hf⟩, hB'⟩ := hB;have hkn : k < n := by simp only [mC] at hk; omega
  have hr' : k ∈ Region.ready md ops listed := by simpa using hr
  have hst : qOp P ops C k (wpQuiet P ops C Lq l) a := by unfold qOp; simp only [h0]; exact h
  obtain ⟨v, hy, hK⟩ := yieldsIn_of_qOp h0 hst;exact cL5 h0 (Region.noSelect_spec hsel) hs hc hn hkn (fun listed' a' hL => seqB_ready hL.1) l.length listed a inv (Region.free_spec h0 hf) hr' hy
   (cH5 hsel hs hc hn l (k + 1) _ _ (fun j hj => by have := hl (j + 1) (by simp; omega); simpa [Nat.add_assoc, Nat.add_comm 1 j] using this) (by simp only [mC] at hk; omega) (inv.set hr' hkn) hB' hK)
theorem aC1 {id : Nat} {Q : Exit -> Act -> World -> Prop} {a : Act} {w : World} {l : List Oper} (n : Nat) (hm : P.follows .mixedOrders = true) (hB : Region.lexTailB .any l.toArray n = true)
  (h : wpQuiet P l.toArray (fun w' => ∃ n, w' = w.drewN n) (fun a' => ∀ w', (∃ n, w' = w.drewN n) -> wpList P l.toArray Q (l.drop n) a' w') (l.take n) a) : (Code.region id l.toArray true).wp P Q a w := by
 simp only [Region.lexTailB, Bool.and_eq_true, decide_eq_true_eq] at hB;obtain ⟨⟨⟨⟨a9, hn⟩, hs⟩, hc⟩, a8⟩ := hB;have f7 : n < l.length := by simpa using hn
 have a7 : (l.take n).length = n := by simp; omega
 have d8 : (l.drop n).length = l.toArray.size - n := by simp
 have b8 : HeadInv .any l.toArray n (Array.replicate l.toArray.size false) :=
  ⟨by simp, fun j oj _ hl => (by rw [getD_replicate_false] at hl; cases hl), fun t _ ht => getD_in (by simpa using ht) (getD_replicate_false _ _)⟩
 have H := cH5 (md := .any) (g := l.toArray.size - n) a9 hs hc hn (l.take n) 0 _ a (fun j hj => by
  have e9 : j < n := by rw [a7] at hj; exact hj
  simp [e9]) (by simpa using a7) b8 (by rw [a7]; exact a8) h
 refine wp_region_any hm ?_;have := bI3 (Q' := Q) (g := l.toArray.size - n) (fun listed a' w' hw' hL => by
  have := wpAny_of_seq (md := .any) (Q' := Q) (l.drop n) n listed a' w' (fun j => by simp [List.getElem?_drop]) (by rw [d8]; exact hL.1) (hL.2 w' hw')
  rwa [d8] at this) _ _ _ w.drew ⟨1, rfl⟩ H
 rw [a7, show n + (l.toArray.size - n) = l.toArray.size by omega] at this;exact this
end
end
section
open Go.RowKit Oct
theorem cC8 (x : UInt8) : bits .andNot .u8 (x.toNat : Int) 128 = ((x.toNat % 128 : Nat) : Int) := by
 have h := bE3 x.toNat;have hx := x.toNat_lt;rw [show ((x.toNat : Int) % 256) = x.toNat by omega] at h;rw [h, low7, aO3 _ (by omega)]
theorem dM3 (m : Nat) (hm : m < 2 ^ 64) : bits .and .u64 (m : Int) 127 = ((m % 128 : Nat) : Int) := by
 have := u64_and_nat m 127 (by omega) (by omega);rw [show ((127 : Nat) : Int) = 127 from rfl] at this;rw [this]
 congr 1
 rw [show (127 : Nat) = 2 ^ 7 - 1 from rfl, Nat.and_two_pow_sub_one_eq_mod]
theorem bU1 (k d : Nat) (hk : k < 2 ^ 57) (hd : d < 128) : bits .or .u64 ((k : Int) * 128) (d : Int) = ((k * 128 + d : Nat) : Int) := by
 have := u64_or_nat (k * 128) d (by omega) (by omega);rw [show ((k * 128 : Nat) : Int) = (k : Int) * 128 by simp] at this;rw [this]
 congr 1
 have h2 := Nat.two_pow_add_eq_or_of_lt (i := 7) hd k;rw [show (2 : Nat) ^ 7 = 128 from rfl] at h2;rw [Nat.mul_comm k 128, <- h2]
def bad (m i k : Nat) (x : UInt8) : Bool := ((i == 0) && x == 128) || decide (m / 128 < k) || (decide (k = m / 128) && decide (m % 128 < x.toNat % 128))
theorem bV6 (m i k : Nat) (x : UInt8) (r : List UInt8) : tkc m (i == 0) k i (x :: r) = if bad m i k x then (0, i + 1, 4) else if x.toNat < 128 then (k * 128 + x.toNat % 128, i + 1, 0) else tkc m (i + 1 == 0) (k * 128 + x.toNat % 128) (i + 1) r := by
 rw [tkc]
 rfl
section
variable {a m i k d c g : Nat} {x : UInt8} {l : List UInt8} {w w3 : World} {s : Value}
theorem dO4 (m k : Nat) (hi : i = 0) (hx : x.toNat = 128) : bad m i k x = true := by
 have : x = 128 := UInt8.toNat_inj.1 hx;subst this; subst hi;simp [bad]
theorem dM7 (i : Nat) (x : UInt8) (h : m / 128 < k) : bad m i k x = true := by simp [bad, h]
theorem dM6 (i : Nat) (h : m / 128 = k) (hd : m % 128 < x.toNat % 128) : bad m i k x = true := by simp [bad, h, hd]
theorem cH7 (h1 : i ≠ 0 ∨ x.toNat ≠ 128) (h2 : k <= m / 128) (h3 : m / 128 = k -> x.toNat % 128 <= m % 128) : bad m i k x = false := by
 have hx : i = 0 -> ¬ x = 128 := by
  rintro hi rfl;rcases h1 with h1 | h1
  ·exact h1 hi
  exact h1 rfl
 simp only [bad, Bool.or_eq_false_iff, Bool.and_eq_false_iff, decide_eq_false_iff_not, beq_eq_false_iff_ne];refine ⟨⟨?_, by omega⟩, ?_⟩
 ·by_cases hi : i = 0
  ·exact .inr (hx hi)
  exact .inl hi
 by_cases hk : k = m / 128
 ·have := h3 hk.symm; exact .inr (by omega)
 exact .inl hk
theorem dM8 (h : bad m i k x = false) : k * 128 + x.toNat % 128 <= m := by
 simp only [bad, Bool.or_eq_false_iff, Bool.and_eq_false_iff, decide_eq_false_iff_not] at h;omega
theorem bI4 (hh : Hid (tkc m true 0 0 (l.drop a) = tkc m (i == 0) k i (l.drop (a + i)))) (hd : l.drop (a + i) = x :: l.drop (a + i + 1)) (hb : bad m i k x = true)
  (ht : Tk w3 g (a + i + 1 : Nat) 4 s) (hg : w.grownBy w3 (some g)) :
  Ending.returned (.int .u64 0) = .returned (.int .u64 (tkc m true 0 0 (l.drop a)).1) ∧ Tk w3 g (a + (tkc m true 0 0 (l.drop a)).2.1 : Nat) (tkc m true 0 0 (l.drop a)).2.2 s ∧ w.grownBy w3 (some g) := by
 rw [hh.out, hd, bV6, if_pos hb];exact ⟨rfl, ht, hg⟩
theorem bH4 {X : Int} (hh : Hid (tkc m true 0 0 (l.drop a) = tkc m (i == 0) k i (l.drop (a + i)))) (hd : l.drop (a + i) = x :: l.drop (a + i + 1)) (hb : bad m i k x = false) (hx : x.toNat < 128)
  (a7 : d = x.toNat % 128) (hX : X = (k * 128 + d : Nat)) (ht : Tk w3 g (a + i + 1 : Nat) 0 s) (hg : w.grownBy w3 (some g)) :
  Ending.returned (.int .u64 X) = .returned (.int .u64 (tkc m true 0 0 (l.drop a)).1) ∧ Tk w3 g (a + (tkc m true 0 0 (l.drop a)).2.1 : Nat) (tkc m true 0 0 (l.drop a)).2.2 s ∧ w.grownBy w3 (some g) := by
 rw [hh.out, hd, bV6, if_neg (by rw [hb]; exact Bool.false_ne_true), if_pos hx];exact ⟨by rw [hX, a7], ht, hg⟩
theorem aW8 {X : Int} (hh : Hid (tkc m true 0 0 (l.drop a) = tkc m (i == 0) k i (l.drop (a + i)))) (hd : l.drop (a + i) = x :: l.drop (a + i + 1)) (hb : bad m i k x = false) (hx : ¬ x.toNat < 128)
  (a7 : d = x.toNat % 128) (hX : X = (k * 128 + d : Nat)) (ht : Tk w3 g (a + i + 1 : Nat) 0 s) (hg : w.grownBy w3 (some g)) (a8 : a + i < l.length) :
  ∃ i' k' : Nat, a + i' <= l.length ∧ Value.int .u64 X = .int .u64 k' ∧ k' <= m ∧ Tk w3 g (a + i' : Nat) 0 s ∧ w.grownBy w3 (some g) ∧ Hid (tkc m true 0 0 (l.drop a) = tkc m (i' == 0) k' i' (l.drop (a + i'))) := by
 refine ⟨i + 1, k * 128 + d, by omega, by rw [hX], by rw [a7]; exact dM8 hb, ht, hg, ?_⟩;show tkc m true 0 0 (l.drop a) = _
 rw [hh.out, hd, bV6, if_neg (by rw [hb]; exact Bool.false_ne_true), if_neg hx, a7]
 rfl
theorem aQ4 {wr : World} (h1 : w3.cell? ⟨g, 0, none⟩ = some (.int .i64 (a + i + 1 : Nat))) (h0 : Hid (wr.cell? ⟨g, 0, none⟩ = some (.int .i64 (a + i : Nat)))) (a7 : a + i < l.length) :
  l.length - (intOf ((w3.cell? ⟨g, 0, none⟩).getD undef)).toNat < l.length - (intOf ((wr.cell? ⟨g, 0, none⟩).getD undef)).toNat := by
 rw [h1, h0.out];simp [intOf]
 omega
end
theorem cR7 (g : Nat) (a m : Nat) (A : Option Addr) (l : List UInt8) (c : Nat) (w : World) (h : Tk w g a 0 (.slice A l.length c)) (hm : m < 2 ^ 64) (ha : a <= l.length) (hl : l.length <= 4611686018427387904)
  (hr : Rd w g A (cells l)) :
  Calls Tryz.prog 186 #[.pointer (some ⟨g, 0, none⟩), .int .u64 m] w fun e' w' => e' = .returned (.int .u64 (tkc m true 0 0 (l.drop a)).1) ∧
   Tk w' g (a + (tkc m true 0 0 (l.drop a)).2.1 : Nat) (tkc m true 0 0 (l.drop a)).2.2 (.slice A l.length c) ∧ w.grownBy w' (some g) := by
 have Hm := qZ hm;clear hm;have l4 : Tk w g (a + 0 : Nat) 0 (.slice A l.length c) := h;have j8 : Hid (tkc m true 0 0 (l.drop a) = tkc m ((0 : Nat) == 0) 0 0 (l.drop (a + 0))) := qZ rfl;obtain ⟨h0, h1, h2, f0, f1⟩ := aG9 h;go_enter Tryz.func186, Tryz.ntmps186
 go_wp2_with fail
 go_quiet (fail);go_wp2_with fail
 go_loopw [5, 7, 8] (fun n x y wr => ∃ i k : Nat, a + i <= l.length ∧ n = .int .u64 k ∧ k <= m ∧ Tk wr g (a + i : Nat) 0 (.slice A l.length c) ∧ w.grownBy wr (some g) ∧ Hid (tkc m true 0 0 (l.drop a) = tkc m (i == 0) k i (l.drop (a + i)))) (fun _ _ _ wr => l.length - (intOf ((wr.cell? ⟨g, 0, none⟩).getD undef)).toNat)
 case atStart => exact ⟨0, 0, by omega, rfl, by omega, l4, aM7 (World.grownBy.refl _ _) _, j8⟩
 obtain ⟨i, k, hi, rfl, hk, i4, hg, hh⟩ := hrel;obtain ⟨h0, h1, h2, f0, f1⟩ := aG9 i4;by_cases hlt : a + i < l.length
 rotate_left
 ·have l8 : l.length <= a + i := by omega
  have g7 : ∀ n, Tk (wr.drewN n) g (a + i : Nat) 0 (.slice A l.length c) := fun _ => i4
  go_wp2_with fail
  refine aC1 8 (by kernel_rfl) (by kernel_rfl) ?_;simp only [List.take_succ_cons, List.take_zero, List.drop_succ_cons, List.drop_zero]
  iterate 8 go_big_quiet_step (fail)
  refine wpQuiet_nil ?_;rintro _ ⟨nt, rfl⟩;go_wp2_with fail
  refine (dH4 g (a + i : Nat) 1 l.length _ _ (g7 _) (by omega) (by omega) (by omega)).mono ?_;rintro e w1 ⟨rfl, f9, i3⟩;go_wp2;go_ret
  have hd : l.drop (a + i) = [] := List.drop_eq_nil_of_le l8;rw [hh.out, hd];exact ⟨rfl, f9, aB8 hg (aG7 i3) (.inl rfl)⟩
 obtain ⟨ad, rfl, l9, f8⟩ := bG6 hr hlt;obtain ⟨x, hx⟩ : ∃ x, x = l[a + i] := ⟨_, rfl⟩
 have a8 : l.drop (a + i) = x :: l.drop (a + i + 1) := by rw [hx]; exact List.drop_eq_getElem_cons hlt
 rw [<- hx] at f8;have m2 := x.toNat_lt;clear hx;have g7 : ∀ n, Tk (wr.drewN n) g (a + i : Nat) 0 (.slice (some ad) l.length c) := fun _ => i4
 obtain ⟨d, hd⟩ : ∃ d, d = x.toNat % 128 := ⟨_, rfl⟩
 have i2 : d < 128 := by omega
 have l6 : bits .andNot .u8 (x.toNat : Int) 128 = (d : Int) := by rw [cC8, hd]
 have l5 := dM3 m Hm.out;have HD := qZ hd;clear hd;go_wp2_with fail
 refine aC1 8 (by kernel_rfl) (by kernel_rfl) ?_;simp only [List.take_succ_cons, List.take_zero, List.drop_succ_cons, List.drop_zero]
 iterate 8 go_big_quiet_step (fail)
 refine wpQuiet_nil ?_;rintro _ ⟨nt, rfl⟩;go_wp2_with fail
 refine (dN7 g (a + i : Nat) 1 l.length _ _ (g7 _) (by omega) (by omega) (by omega) (by omega) (by omega) (by omega)).mono ?_;rintro e w1 ⟨rfl, f9, i3⟩;have j6 := aB8 hg (aG7 i3) (.inl rfl);obtain ⟨q0, q1, q2, q3, q4⟩ := aG9 f9;have l7 : w1.cell? (ad.add (a + i)) = some (.int .u8 (x.toNat : Int)) := by
  refine (World.cell?_of_block (w := w) ?_).trans f8;rw [aC5];exact j6.block ad.block (by have := h.lt; omega) (by simp; omega)
 have i6 := qZ h0;clear h0 h1 h2 f0 f1 i4 g7 hg i3 f8;go_wp2_with fail
 go_quiet (fail);go_wp2_with fail
 have a9 : Tk (w1.drewN nq) g (a + i + 1 : Nat) 0 (.slice (some ad) l.length c) := f9;have d8 : w.grownBy (w1.drewN nq) (some g) := aM7 j6 nq;clear f9 j6 q0 q1 q2 q3 q4 l7;generalize w1.drewN nq = w2 at a9 d8 ⊢
 obtain ⟨q0, q1, q2, q3, q4⟩ := aG9 a9;have i1 := i6;have m0 : IntKind.i64.wrap ((a : Int) + 1) = a + 1 := mH _ (by omega);rcases Nat.eq_zero_or_pos i with g9 | g9
 rotate_left
 ·have g1 : ((a : Int) + i + 1 == a + 1) = false := by simp; omega
  have HI := qZ g9;have HX := HI;rcases Nat.lt_trichotomy (m / 128) k with e9 | e9 | e9
  ·have e1 : ¬ ((k : Int) <= (m : Int) / 128) := by omega
   have e2 : (m : Int) / 128 < k := by omega
   have HB := qZ (dM7 i x e9);refine aC1 33 (by kernel_rfl) (by kernel_rfl) ?_;simp only [List.take_succ_cons, List.take_zero, List.drop_succ_cons, List.drop_zero]
   iterate 33 go_big_quiet_step (fail)
   refine wpQuiet_nil ?_;rintro _ ⟨nt, rfl⟩;go_wp2_with fail
   refine (aS4 g (a + i + 1 : Nat) 4 _ _ (a9.drewN nt) (by omega)).mono ?_;rintro e w3 ⟨rfl, a7, g6⟩;go_wp2;go_ret
   exact bI4 hh a8 HB.out a7 (aB8 d8 (aG7 g6) (.inl rfl))
  ·rcases Nat.lt_or_ge (m % 128) d with g8 | g8
   ·have e1 : ¬ ((d : Int) <= (m : Int) % 128) := by omega
    have e2 : (m : Int) % 128 < d := by omega
    have HB := qZ (dM6 i e9 (by rw [<- HD.out]; exact g8));subst e9;refine aC1 33 (by kernel_rfl) (by kernel_rfl) ?_;simp only [List.take_succ_cons, List.take_zero, List.drop_succ_cons, List.drop_zero]
    iterate 33 go_big_quiet_step (fail)
    refine wpQuiet_nil ?_;rintro _ ⟨nt, rfl⟩;go_wp2_with fail
    refine (aS4 g (a + i + 1 : Nat) 4 _ _ (a9.drewN nt) (by omega)).mono ?_;rintro e w3 ⟨rfl, a7, g6⟩;go_wp2;go_ret
    exact bI4 hh a8 HB.out a7 (aB8 d8 (aG7 g6) (.inl rfl))
   have e1 : (d : Int) <= (m : Int) % 128 := by omega
   have e2 : ¬ (m : Int) % 128 < d := by omega
   have HB := qZ (cH7 (m := m) (i := i) (k := k) (x := x) (by have := HI.out; have := HX.out; omega) (by omega) (by intro _; rw [<- HD.out]; exact g8));subst e9;refine aC1 33 (by kernel_rfl) (by kernel_rfl) ?_;simp only [List.take_succ_cons, List.take_zero, List.drop_succ_cons, List.drop_zero]
   iterate 33 go_big_quiet_step (fail)
   refine wpQuiet_nil ?_;rintro _ ⟨nt, rfl⟩;go_wp2_with fail
   refine (bB6 g (a + i + 1 : Nat) 4 _ _ (a9.drewN nt)).mono ?_;rintro e w3 ⟨rfl, rfl⟩;have f7 := qZ (bU1 (m / 128) d (by have := Hm.out; omega) i2);have a7 : Tk (w2.drewN nt) g (a + i + 1 : Nat) 0 (.slice (some ad) l.length c) := a9.drewN nt;have b8 := aM7 d8 nt;have j9 : m / 128 <= 144115188075855871 := by have := Hm.out; omega
   by_cases hx128 : x.toNat < 128
   ·go_wp2
    go_ret
    exact bH4 hh a8 HB.out hx128 HD.out f7.out a7 b8
   go_wp2;go_roundw
   case rel => exact aW8 hh a8 HB.out hx128 HD.out f7.out a7 b8 hlt
   case measure => exact aQ4 (a7.cell 0) i1 hlt
  have e1 : ((k : Int) <= (m : Int) / 128) := by omega
  have e2 : ¬ (m : Int) / 128 < k := by omega
  have e3 : ¬ ((k : Int) = (m : Int) / 128) := by omega
  have e4 : ((k : Int) == (m : Int) / 128) = false := by simp; omega
  have HB := qZ (cH7 (m := m) (i := i) (k := k) (x := x) (by have := HI.out; have := HX.out; omega) (by omega) (by omega));refine aC1 33 (by kernel_rfl) (by kernel_rfl) ?_;simp only [List.take_succ_cons, List.take_zero, List.drop_succ_cons, List.drop_zero]
  iterate 33 go_big_quiet_step (fail)
  refine wpQuiet_nil ?_;rintro _ ⟨nt, rfl⟩;go_wp2_with fail
  refine (bB6 g (a + i + 1 : Nat) 4 _ _ (a9.drewN nt)).mono ?_;rintro e w3 ⟨rfl, rfl⟩;have f7 := qZ (bU1 k d (by have := Hm.out; omega) i2);have a7 : Tk (w2.drewN nt) g (a + i + 1 : Nat) 0 (.slice (some ad) l.length c) := a9.drewN nt;have b8 := aM7 d8 nt;have j9 : k <= 144115188075855871 := by have := Hm.out; omega
  by_cases hx128 : x.toNat < 128
  ·go_wp2
   go_ret
   exact bH4 hh a8 HB.out hx128 HD.out f7.out a7 b8
  go_wp2;go_roundw
  case rel => exact aW8 hh a8 HB.out hx128 HD.out f7.out a7 b8 hlt
  case measure => exact aQ4 (a7.cell 0) i1 hlt
 have g1 : ((a : Int) + i + 1 == a + 1) = true := by simp; omega
 have HI := qZ g9;by_cases hx8 : x.toNat = 128
 ·have g3 : ((x.toNat : Int) == 128) = true := by simp; omega
  have HB := qZ (dO4 m k g9 hx8);clear g9 hx8;refine aC1 33 (by kernel_rfl) (by kernel_rfl) ?_;simp only [List.take_succ_cons, List.take_zero, List.drop_succ_cons, List.drop_zero]
  iterate 33 go_big_quiet_step (fail)
  refine wpQuiet_nil ?_;rintro _ ⟨nt, rfl⟩;go_wp2_with fail
  refine (aS4 g (a + i + 1 : Nat) 4 _ _ (a9.drewN nt) (by omega)).mono ?_;rintro e w3 ⟨rfl, a7, g6⟩;go_wp2;go_ret
  exact bI4 hh a8 HB.out a7 (aB8 d8 (aG7 g6) (.inl rfl))
 have g3 : ((x.toNat : Int) == 128) = false := by simp; omega
 have HX := qZ hx8;clear g9 hx8;rcases Nat.lt_trichotomy (m / 128) k with e9 | e9 | e9
 ·have e1 : ¬ ((k : Int) <= (m : Int) / 128) := by omega
  have e2 : (m : Int) / 128 < k := by omega
  have HB := qZ (dM7 i x e9);refine aC1 33 (by kernel_rfl) (by kernel_rfl) ?_;simp only [List.take_succ_cons, List.take_zero, List.drop_succ_cons, List.drop_zero]
  iterate 33 go_big_quiet_step (fail)
  refine wpQuiet_nil ?_;rintro _ ⟨nt, rfl⟩;go_wp2_with fail
  refine (aS4 g (a + i + 1 : Nat) 4 _ _ (a9.drewN nt) (by omega)).mono ?_;rintro e w3 ⟨rfl, a7, g6⟩;go_wp2;go_ret
  exact bI4 hh a8 HB.out a7 (aB8 d8 (aG7 g6) (.inl rfl))
 ·rcases Nat.lt_or_ge (m % 128) d with g8 | g8
  ·have e1 : ¬ ((d : Int) <= (m : Int) % 128) := by omega
   have e2 : (m : Int) % 128 < d := by omega
   have HB := qZ (dM6 i e9 (by rw [<- HD.out]; exact g8));subst e9;refine aC1 33 (by kernel_rfl) (by kernel_rfl) ?_;simp only [List.take_succ_cons, List.take_zero, List.drop_succ_cons, List.drop_zero]
   iterate 33 go_big_quiet_step (fail)
   refine wpQuiet_nil ?_;rintro _ ⟨nt, rfl⟩;go_wp2_with fail
   refine (aS4 g (a + i + 1 : Nat) 4 _ _ (a9.drewN nt) (by omega)).mono ?_;rintro e w3 ⟨rfl, a7, g6⟩;go_wp2;go_ret
   exact bI4 hh a8 HB.out a7 (aB8 d8 (aG7 g6) (.inl rfl))
  have e1 : (d : Int) <= (m : Int) % 128 := by omega
  have e2 : ¬ (m : Int) % 128 < d := by omega
  have HB := qZ (cH7 (m := m) (i := i) (k := k) (x := x) (by have := HI.out; have := HX.out; omega) (by omega) (by intro _; rw [<- HD.out]; exact g8));subst e9;refine aC1 33 (by kernel_rfl) (by kernel_rfl) ?_;simp only [List.take_succ_cons, List.take_zero, List.drop_succ_cons, List.drop_zero]
  iterate 33 go_big_quiet_step (fail)
  refine wpQuiet_nil ?_;rintro _ ⟨nt, rfl⟩;go_wp2_with fail
  refine (bB6 g (a + i + 1 : Nat) 4 _ _ (a9.drewN nt)).mono ?_;rintro e w3 ⟨rfl, rfl⟩;have f7 := qZ (bU1 (m / 128) d (by have := Hm.out; omega) i2);have a7 : Tk (w2.drewN nt) g (a + i + 1 : Nat) 0 (.slice (some ad) l.length c) := a9.drewN nt;have b8 := aM7 d8 nt;have j9 : m / 128 <= 144115188075855871 := by have := Hm.out; omega
  by_cases hx128 : x.toNat < 128
  ·go_wp2
   go_ret
   exact bH4 hh a8 HB.out hx128 HD.out f7.out a7 b8
  go_wp2;go_roundw
  case rel => exact aW8 hh a8 HB.out hx128 HD.out f7.out a7 b8 hlt
  case measure => exact aQ4 (a7.cell 0) i1 hlt
 have e1 : ((k : Int) <= (m : Int) / 128) := by omega
 have e2 : ¬ (m : Int) / 128 < k := by omega
 have e3 : ¬ ((k : Int) = (m : Int) / 128) := by omega
 have e4 : ((k : Int) == (m : Int) / 128) = false := by simp; omega
 have HB := qZ (cH7 (m := m) (i := i) (k := k) (x := x) (by have := HI.out; have := HX.out; omega) (by omega) (by omega));refine aC1 33 (by kernel_rfl) (by kernel_rfl) ?_;simp only [List.take_succ_cons, List.take_zero, List.drop_succ_cons, List.drop_zero]
 iterate 33 go_big_quiet_step (fail)
 refine wpQuiet_nil ?_;rintro _ ⟨nt, rfl⟩;go_wp2_with fail
 refine (bB6 g (a + i + 1 : Nat) 4 _ _ (a9.drewN nt)).mono ?_;rintro e w3 ⟨rfl, rfl⟩;have f7 := qZ (bU1 k d (by have := Hm.out; omega) i2);have a7 : Tk (w2.drewN nt) g (a + i + 1 : Nat) 0 (.slice (some ad) l.length c) := a9.drewN nt;have b8 := aM7 d8 nt;have j9 : k <= 144115188075855871 := by have := Hm.out; omega
 by_cases hx128 : x.toNat < 128
 ·go_wp2
  go_ret
  exact bH4 hh a8 HB.out hx128 HD.out f7.out a7 b8
 go_wp2;go_roundw
 case rel => exact aW8 hh a8 HB.out hx128 HD.out f7.out a7 b8 hlt
 case measure => exact aQ4 (a7.cell 0) i1 hlt
end
section
open Go.RowKit Oct
theorem bT6 : (9223372036854775807 : Int) = (maxI : Int) := rfl
theorem dJ7 : (18446744073709551615 : Int) = (maxU : Int) := rfl
theorem bT7 : maxI < 2 ^ 64 := by decide
theorem dJ8 : maxU < 2 ^ 64 := by decide
theorem aZ9 (g a m : Nat) (M : Int) (hM : M = (m : Int)) (A : Option Addr) (l : List UInt8) (c : Nat) (w : World) (h : Tk w g a 0 (.slice A l.length c)) (hm : m < 2 ^ 64) (ha : a <= l.length) (hl : l.length <= 4611686018427387904)
  (hr : Rd w g A (cells l)) :
  Calls Tryz.prog 186 #[.pointer (some ⟨g, 0, none⟩), .int .u64 M] w fun e' w' => e' = .returned (.int .u64 (cnt m (l.drop a)).1) ∧
   Tk w' g (a + (cnt m (l.drop a)).2.1 : Nat) (cnt m (l.drop a)).2.2 (.slice A l.length c) ∧ w.grownBy w' (some g) := by
 subst hM;exact cR7 g a m A l c w h hm ha hl hr
theorem cB6 (w : World) (s : Value) : Tk (w.alloc (.cells #[.int .i64 0, .int .i64 0, s] 220)) w.heap.size 0 0 s := Blk.new _ _ _
theorem aU4 {w w1 : World} {o : Obj} (h : (w.alloc o).grownBy w1 (some w.heap.size)) : Below w.heap.size w w1 :=
 ((lS _ w).alloc (lR _) o).trans ⟨h.os, h.tape, h.output, h.size, fun k hk => h.block k (by simp; omega) (by simp; omega)⟩
theorem bN4 (a : Nat) (e : Int) : cB7 (a : Int) e = ((if e = 0 then a else 0 : Nat) : Int) := by
 unfold cB7;split <;> rfl
theorem aO2 (A : Option Addr) (l : List UInt8) (c : Nat) (w : World) (hr : Rd w w.heap.size A (cells l)) (hl : l.length <= 4611686018427387904) :
  Calls Tryz.prog 150 #[.slice A l.length c] w fun e w' => e = .returned (.tuple #[.int .i64 (aB9 maxI l).1, .int .i64 (aB9 maxI l).2.1, .int .i64 (aB9 maxI l).2.2]) ∧ Below w.heap.size w w' := by
 go_enter Tryz.func150, Tryz.ntmps150
 go_wp2_with fail
 refine (aZ9 w.heap.size 0 maxI _ bT6 A l c _ (cB6 _ _) bT7 (by omega) hl (hr.alloc (lR _) _)).mono ?_;rintro e w1 ⟨rfl, a7, hg⟩;have hb := aU4 hg;rw [List.drop_zero, Nat.zero_add] at a7;rw [List.drop_zero];have a8 : (cnt maxI l).1 <= 9223372036854775807 := cI2 maxI l;obtain ⟨h0, h1, h2, f0, f1⟩ := aG9 a7;clear hg;go_wp2_with fail
 go_quiet ((go_at_call 187; exact Calls.quiet_of_same (cL3 _ _ _ _ _ (a7.drewN _))));go_wp2;go_ret3
 exact ⟨dP5 rfl (congrArg (Value.int .i64) (bN4 _ _)) rfl, aA4 hb _⟩
theorem cF0 (u : Nat) (hu : u <= maxU) : bits .xor .i64 (wrap64 ((u : Int) / 2)) (wrap64 (-wrap64 (bits .and .u64 (u : Int) 1))) = aI4 u := by
 have a7 : u <= 18446744073709551615 := hu;have h1 : bits .and .u64 (u : Int) 1 = ((u % 2 : Nat) : Int) := by
  have := u64_and_nat u 1 (by omega) (by omega);rw [show ((1 : Nat) : Int) = 1 from rfl] at this;rw [this, Nat.and_one_is_mod]
 have h2 : wrap64 ((u : Int) / 2) = ((u / 2 : Nat) : Int) := by
  rw [IntWalk.wrap64_in _ ⟨by omega, by omega⟩];omega
 rw [h1, h2];have hb : (BitVec.ofInt 64 ((u / 2 : Nat) : Int)).toNat = u / 2 := by
  rw [BitVec.ofInt_natCast, BitVec.toNat_ofNat];exact Nat.mod_eq_of_lt (by omega)
 rcases Nat.mod_two_eq_zero_or_one u with h | h
 ·rw [h]
  have h3 : wrap64 (-wrap64 ((0 : Nat) : Int)) = 0 := by unfold wrap64; decide
  rw [h3];show IntKind.i64.wrap ((BitVec.ofInt 64 ((u / 2 : Nat) : Int) ^^^ BitVec.ofInt 64 0).toNat : Int) = _
  have h4 : BitVec.ofInt 64 ((u / 2 : Nat) : Int) ^^^ BitVec.ofInt 64 0 = BitVec.ofInt 64 ((u / 2 : Nat) : Int) := by
   rw [show BitVec.ofInt 64 0 = 0#64 from rfl, BitVec.xor_zero]
  rw [h4, hb, IntKind.wrap_i64, aI4, if_pos h];omega
 rw [h];have h3 : wrap64 (-wrap64 ((1 : Nat) : Int)) = -1 := by unfold wrap64; decide
 rw [h3];show IntKind.i64.wrap ((BitVec.ofInt 64 ((u / 2 : Nat) : Int) ^^^ BitVec.ofInt 64 (-1)).toNat : Int) = _
 have h4 : BitVec.ofInt 64 ((u / 2 : Nat) : Int) ^^^ BitVec.ofInt 64 (-1) = ~~~ (BitVec.ofInt 64 ((u / 2 : Nat) : Int)) := by
  rw [show BitVec.ofInt 64 (-1) = BitVec.allOnes 64 from rfl, BitVec.xor_allOnes]
 rw [h4, BitVec.toNat_not, hb, IntKind.wrap_i64, aI4, if_neg (by omega)];omega
theorem cO5 (g a : Nat) (A : Option Addr) (l : List UInt8) (c : Nat) (w : World) (h : Tk w g a 0 (.slice A l.length c)) (ha : a <= l.length) (hl : l.length <= 4611686018427387904) (hr : Rd w g A (cells l)) :
  Calls Tryz.prog 189 #[.pointer (some ⟨g, 0, none⟩)] w fun e' w' => e' = .returned (.int .i64 (aI4 (cnt maxU (l.drop a)).1)) ∧
   Tk w' g (a + (cnt maxU (l.drop a)).2.1 : Nat) (cnt maxU (l.drop a)).2.2 (.slice A l.length c) ∧ w.grownBy w' (some g) := by
 go_enter Tryz.func189, Tryz.ntmps189
 go_wp2_with fail
 refine (aZ9 g a maxU _ dJ7 A l c _ h dJ8 ha hl hr).mono ?_;rintro e w1 ⟨rfl, a8, hg⟩;have a7 := qZ (cI2 maxU (l.drop a));go_wp2;go_ret
 exact ⟨cY0 (cF0 _ a7.out), a8, hg⟩
theorem cG5 (A : Option Addr) (l : List UInt8) (c : Nat) (w : World) (hr : Rd w w.heap.size A (cells l)) (hl : l.length <= 4611686018427387904) :
  Calls Tryz.prog 154 #[.slice A l.length c] w fun e w' => e = .returned (.tuple #[.int .i64 (aI4 (aB9 maxU l).1), .int .i64 (aB9 maxU l).2.1, .int .i64 (aB9 maxU l).2.2]) ∧ Below w.heap.size w w' := by
 go_enter Tryz.func154, Tryz.ntmps154
 go_wp2_with fail
 refine (cO5 w.heap.size 0 A l c _ (cB6 _ _) (by omega) hl (hr.alloc (lR _) _)).mono ?_;rintro e w1 ⟨rfl, a7, hg⟩;have hb := aU4 hg;rw [List.drop_zero, Nat.zero_add] at a7;rw [List.drop_zero];obtain ⟨h0, h1, h2, f0, f1⟩ := aG9 a7;clear hg;go_wp2_with fail
 go_quiet ((go_at_call 187; exact Calls.quiet_of_same (cL3 _ _ _ _ _ (a7.drewN _))));go_wp2;go_ret3
 exact ⟨dP5 rfl (congrArg (Value.int .i64) (bN4 _ _)) rfl, aA4 hb _⟩
def lenOf (m : Nat) (l : List UInt8) : Nat × Int := if (cnt maxI l).2.2 = 0 then (if m < (cnt maxI l).1 then (0, 2) else ((cnt maxI l).1, 0)) else (0, (cnt maxI l).2.2)
theorem cW4 (m : Nat) (l : List UInt8) (h : (cnt maxI l).2.2 ≠ 0) : lenOf m l = (0, (cnt maxI l).2.2) := if_neg h
theorem cO3 (m : Nat) (l : List UInt8) (h : (cnt maxI l).2.2 = 0) (h2 : m < (cnt maxI l).1) : lenOf m l = (0, 2) := by unfold lenOf; rw [if_pos h, if_pos h2]
theorem dD3 (m : Nat) (l : List UInt8) (h : (cnt maxI l).2.2 = 0) (h2 : ¬ m < (cnt maxI l).1) : lenOf m l = ((cnt maxI l).1, 0) := by unfold lenOf; rw [if_pos h, if_neg h2]
theorem bC6 (g m : Nat) (A : Option Addr) (l : List UInt8) (c : Nat) (w : World) (h : Tk w g 0 0 (.slice A l.length c)) (hl : l.length <= 4611686018427387904) (hr : Rd w g A (cells l)) (hm : m <= 65536) :
  Calls Tryz.prog 204 #[.pointer (some ⟨g, 0, none⟩), .int .i64 m] w fun e' w' => e' = .returned (.int .i64 (lenOf m l).1) ∧
   Tk w' g ((cnt maxI l).2.1 : Nat) (lenOf m l).2 (.slice A l.length c) ∧ w.grownBy w' (some g) := by
 have b8 : (cnt maxI l).1 <= 9223372036854775807 := cI2 maxI l;by_cases he : (cnt maxI l).2.2 = 0
 rotate_left
 ·rw [cW4 m l he]
  go_enter Tryz.func204, Tryz.ntmps204
  go_wp2_with fail
  refine (aZ9 g 0 maxI _ bT6 A l c _ h bT7 (by omega) hl hr).mono ?_;rintro e w1 ⟨rfl, a7, hg⟩;rw [List.drop_zero, Nat.zero_add] at a7;rw [List.drop_zero];have HE := qZ he;clear he;go_wp2_with fail
  refine (cZ7 g _ _ 2 _ _ _ a7 HE.out).mono ?_;rintro e w2 ⟨rfl, rfl⟩;go_wp2;go_ret
  exact ⟨rfl, a7, hg⟩
 by_cases hlt : m < (cnt maxI l).1
 ·rw [cO3 m l he hlt]
  go_enter Tryz.func204, Tryz.ntmps204
  go_wp2_with fail
  refine (aZ9 g 0 maxI _ bT6 A l c _ h bT7 (by omega) hl hr).mono ?_;rintro e w1 ⟨rfl, a7, hg⟩;rw [List.drop_zero, he, Nat.zero_add] at a7;rw [List.drop_zero];have HE := qZ he;clear he;go_wp2_with fail
  refine (aS4 g _ 2 _ _ a7 (by omega)).mono ?_;rintro e w2 ⟨rfl, a8, a9⟩;go_wp2;go_ret
  exact ⟨rfl, a8, aB8 hg a9 (.inl rfl)⟩
 rw [dD3 m l he hlt];go_enter Tryz.func204, Tryz.ntmps204
 go_wp2_with fail
 refine (aZ9 g 0 maxI _ bT6 A l c _ h bT7 (by omega) hl hr).mono ?_;rintro e w1 ⟨rfl, a7, hg⟩;rw [List.drop_zero, he, Nat.zero_add] at a7;rw [List.drop_zero];have HE := qZ he;clear he;have d8 : decide (m < (cnt maxI l).1) = false := by simpa using hlt
 go_wp2_with fail
 refine (bB6 g _ 2 _ _ a7).mono ?_;rintro e w2 ⟨rfl, rfl⟩;go_wp2;go_ret
 exact ⟨rfl, a7, hg⟩
end
section
open Go.RowKit Oct
def aH5 (l : List UInt8) : List UInt8 × Nat × Int :=
 if (lenOf 65535 l).2 = 0 then
  (if l.length - (cnt maxI l).2.1 < (lenOf 65535 l).1 then ([], 0, 3) else ((l.drop (cnt maxI l).2.1).take (lenOf 65535 l).1, (cnt maxI l).2.1 + (lenOf 65535 l).1, 0))
 else ([], 0, (lenOf 65535 l).2)
theorem cB4 (A : Option Addr) (l : List UInt8) (c : Nat) (w : World) (hr : Rd w w.heap.size A (cells l)) (hl : l.length <= 4611686018427387904) (he : (lenOf 65535 l).2 ≠ 0) :
  Calls Tryz.prog 175 #[.slice A l.length c] w fun e w' => e = .returned (.tuple #[.string (str (aH5 l).1), .int .i64 (aH5 l).2.1, .int .i64 (aH5 l).2.2]) ∧ Below w.heap.size w w' := by
 have a7 : aH5 l = ([], 0, (lenOf 65535 l).2) := if_neg he;rw [a7];have HE := qZ he;clear he a7;go_enter Tryz.func175, Tryz.ntmps175
 go_wp2_with fail
 refine (bC6 w.heap.size 65535 A l c _ (cB6 _ _) hl (hr.alloc (lR _) _) (by omega)).mono ?_;rintro e w1 ⟨rfl, a8, hg⟩;have hb := aU4 hg;clear hg;obtain ⟨h0, h1, h2, f0, f1⟩ := aG9 a8;go_wp2_with fail
 refine (dN6 _ _ _ _ _ _ _ a8 HE.out).mono ?_;rintro e w2 ⟨rfl, rfl⟩;go_wp2_with fail
 go_quiet (fail);go_wp2;go_ret3
 exact ⟨rfl, aA4 hb _⟩
theorem cB3 (A : Option Addr) (l : List UInt8) (c : Nat) (w : World) (hr : Rd w w.heap.size A (cells l)) (hl : l.length <= 4611686018427387904) (he : (lenOf 65535 l).2 = 0)
  (e9 : l.length - (cnt maxI l).2.1 < (lenOf 65535 l).1) :
  Calls Tryz.prog 175 #[.slice A l.length c] w fun e w' => e = .returned (.tuple #[.string (str (aH5 l).1), .int .i64 (aH5 l).2.1, .int .i64 (aH5 l).2.2]) ∧ Below w.heap.size w w' := by
 have a7 : aH5 l = ([], 0, 3) := by unfold aH5; rw [if_pos he, if_pos e9]
 rw [a7];have HE := qZ he;have hu := bS4 maxI l;clear he a7;go_enter Tryz.func175, Tryz.ntmps175
 go_wp2_with fail
 refine (bC6 w.heap.size 65535 A l c _ (cB6 _ _) hl (hr.alloc (lR _) _) (by omega)).mono ?_;rintro e w1 ⟨rfl, a8, hg⟩;rw [HE.out] at a8;have hb := aU4 hg;clear hg;go_wp2_with fail
 refine (dH4 _ _ _ _ _ _ a8 (by omega) (by omega) (by omega)).mono ?_;rintro e w2 ⟨rfl, a9, b8⟩;have d8 : Below w.heap.size w w2 := hb.grown b8 hb.size (by simp);obtain ⟨h0, h1, h2, f0, f1⟩ := aG9 a9;clear b8 hb a8;go_wp2_with fail
 go_quiet (fail);go_wp2;go_ret3
 exact ⟨rfl, aA4 d8 _⟩
theorem cG6 (A : Option Addr) (l : List UInt8) (c : Nat) (w : World) (hr : Rd w w.heap.size A (cells l)) (g6 : l.length <= c) (hl : l.length <= 4611686018427387904 ∧ c <= 9223372036854775807) (he : (lenOf 65535 l).2 = 0)
  (f8 : ¬ l.length - (cnt maxI l).2.1 < (lenOf 65535 l).1) :
  Calls Tryz.prog 175 #[.slice A l.length c] w fun e w' => e = .returned (.tuple #[.string (str (aH5 l).1), .int .i64 (aH5 l).2.1, .int .i64 (aH5 l).2.2]) ∧ Below w.heap.size w w' := by
 have a7 : aH5 l = ((l.drop (cnt maxI l).2.1).take (lenOf 65535 l).1, (cnt maxI l).2.1 + (lenOf 65535 l).1, 0) := by unfold aH5; rw [if_pos he, if_neg f8]
 rw [a7];have HE := qZ he;have hu := bS4 maxI l;clear he a7;go_enter Tryz.func175, Tryz.ntmps175
 go_wp2_with fail
 refine (bC6 w.heap.size 65535 A l c _ (cB6 _ _) (by omega) (hr.alloc (lR _) _) (by omega)).mono ?_;rintro e w1 ⟨rfl, a8, hg⟩;rw [HE.out] at a8;have hb := aU4 hg;clear hg;go_wp2_with fail
 refine (dN7 _ _ _ _ _ _ a8 (by omega) (by omega) (by omega) (by omega) (by omega) (by omega)).mono ?_;rintro e w2 ⟨rfl, a9, d8⟩;have b8 : Below w.heap.size w w2 := hb.grown d8 hb.size (by simp);obtain ⟨h0, h1, h2, f0, f1⟩ := aG9 a9;have e9 := hr.below b8;clear d8 hb a8;have hcut := fun W : World => bM5 (P := Tryz.prog) Tryz.underlying34 aG0 A l.length c (cnt maxI l).2.1 ((cnt maxI l).2.1 + (lenOf 65535 l).1) (by omega) (by omega) (((cnt maxI l).2.1 : Nat) : Int) (((cnt maxI l).2.1 : Int) + ((lenOf 65535 l).1 : Int)) rfl (by simp) W
 rw [Nat.add_sub_cancel_left] at hcut;have f7 : Rd w2 w.heap.size (cutA A (cnt maxI l).2.1 c) (cells ((l.drop (cnt maxI l).2.1).take (lenOf 65535 l).1)) := by
  have := (Rd.cutA e9 (k := (cnt maxI l).2.1) (cap := c) (by rw [aA2]; omega) (by rw [aA2]; omega)).take (lenOf 65535 l).1
  simpa [cells, List.map_take, List.map_drop] using this
 have f9 : ∀ q, (convert 34 9 (.slice (cutA A (cnt maxI l).2.1 c) (lenOf 65535 l).1 (c - (cnt maxI l).2.1))).run Tryz.prog (w2.drewN q) = .ok (.string (str ((l.drop (cnt maxI l).2.1).take (lenOf 65535 l).1))) (w2.drewN q) := fun q => by
  have := bN0 (w := w2.drewN q) (c - (cnt maxI l).2.1) (f7.drewN q);rw [show ((l.drop (cnt maxI l).2.1).take (lenOf 65535 l).1).length = (lenOf 65535 l).1 by simp; omega] at this;exact this
 have g7 : IntKind.i64.wrap (((cnt maxI l).2.1 : Int) + ((lenOf 65535 l).1 : Int) - ((lenOf 65535 l).1 : Int)) = ((cnt maxI l).2.1 : Int) := by rw [mH _ (by omega)]; omega
 have g8 : IntKind.i64.wrap (((cnt maxI l).2.1 : Nat) : Int) = ((cnt maxI l).2.1 : Int) := mH _ (by omega);clear e9 hr f7;go_wp2_with fail
 go_quiet (fail);go_wp2;go_ret3
 exact ⟨rfl, aA4 b8 _⟩
theorem cB2 (A : Option Addr) (l : List UInt8) (c : Nat) (w : World) (hr : Rd w w.heap.size A (cells l)) (a7 : l.length <= c) (hl : l.length <= 4611686018427387904 ∧ c <= 9223372036854775807) :
  Calls Tryz.prog 175 #[.slice A l.length c] w fun e w' => e = .returned (.tuple #[.string (str (aH5 l).1), .int .i64 (aH5 l).2.1, .int .i64 (aH5 l).2.2]) ∧ Below w.heap.size w w' := by
 by_cases he : (lenOf 65535 l).2 = 0
 ·by_cases hlt : l.length - (cnt maxI l).2.1 < (lenOf 65535 l).1
  ·exact cB3 A l c w hr (by omega) he hlt
  exact cG6 A l c w hr a7 hl he hlt
 exact cB4 A l c w hr (by omega) he
end
section
open Go.RowKit Oct
theorem bH5 : (Tryz.prog.info? 3).map (fun i => (i.zero, i.size, i.bytes)) = some (some (.int .i64 0), 1, 8) := by kernel_rfl
abbrev Is (w : World) (base : Nat) (v : Value) (z : List Int) : Prop := Own w base 3 v (z.map (Value.int .i64))
end
section
open Go.RowKit Oct
def bV9 (w : World) (g : Nat) (l : List UInt8) : Prop := Blk w g 5 (cells l ++ [Value.int .u8 77]).toArray
theorem bI7 (l : List UInt8) : ∀ u ∈ cells l, u.oneCell' = true := by
 intro u hu;obtain ⟨_, _, rfl⟩ := List.mem_map.1 hu
 rfl
end
section
open Go.RowKit Oct
theorem dH1 (x : Nat) (h : x < 18446744073709551616) : x ^^^ 18446744073709551615 = 18446744073709551615 - x := by
 have h1 : (BitVec.ofNat 64 x ^^^ BitVec.allOnes 64).toNat = x ^^^ 18446744073709551615 := by
  rw [BitVec.toNat_xor, BitVec.toNat_ofNat, BitVec.toNat_allOnes, Nat.mod_eq_of_lt (by omega)]
 rw [<- h1, BitVec.xor_allOnes, BitVec.toNat_not, BitVec.toNat_ofNat, Nat.mod_eq_of_lt (by omega)]
theorem cT2 (n : Int) (h : -9223372036854775808 <= n ∧ n <= 9223372036854775807) :
  bits .xor .u64 (IntKind.u64.wrap (IntKind.u64.wrap n * 2)) (IntKind.u64.wrap (n / 9223372036854775808)) = ((fold1 n : Nat) : Int) := by
 have hw : ∀ x : Int, IntKind.u64.wrap x = x % 18446744073709551616 := fun x => by simp [IntKind.wrap, IntKind.bits, IntKind.signed]
 by_cases hn : 0 <= n
 ·obtain ⟨k, rfl⟩ := Int.eq_ofNat_of_zero_le hn
  rw [hw, hw, hw, show ((k : Int) % 18446744073709551616 * 2) % 18446744073709551616 = ((2 * k : Nat) : Int) by omega, show ((k : Int) / 9223372036854775808) % 18446744073709551616 = ((0 : Nat) : Int) by omega,
   u64_xor_nat _ _ (by omega) (by omega), Nat.xor_zero, fold1, if_pos hn]
  simp
 obtain ⟨k, hk⟩ : ∃ k : Nat, n = -(k : Int) - 1 := ⟨(-(n + 1)).toNat, by omega⟩
 subst hk;rw [hw, hw, hw, show ((-(k : Int) - 1) % 18446744073709551616 * 2) % 18446744073709551616 = ((18446744073709551614 - 2 * k : Nat) : Int) by omega,
  show ((-(k : Int) - 1) / 9223372036854775808) % 18446744073709551616 = ((18446744073709551615 : Nat) : Int) by omega,
  u64_xor_nat _ _ (by omega) (by omega), fold1, if_neg hn]
 have h2 : (18446744073709551614 - 2 * k) ^^^ 18446744073709551615 = 2 * k + 1 := by
  rw [dH1 _ (by omega)];omega
 rw [h2]
 congr 1
 omega
theorem bH0 (n : Int) (h : -9223372036854775808 <= n ∧ n <= 9223372036854775807) : fold1 n < 2 ^ 64 := by
 unfold fold1;split <;> omega
theorem cM1 (n : Int) (h : -9223372036854775808 <= n ∧ n <= 9223372036854775807) (w : World) :
  Calls Tryz.prog 158 #[.int .i64 n] w fun e w' => e = .returned (.int .u64 (fold1 n : Nat)) ∧ w = w' := by
 have H := qZ h;clear h;go_enter Tryz.func158, Tryz.ntmps158
 go_wp2;go_ret
 exact ⟨cY0 (cT2 n H.out), rfl⟩
theorem dJ2 (n : Int) (h : -9223372036854775808 <= n ∧ n <= 9223372036854775807) (w : World) :
  Calls Tryz.prog 119 #[.int .i64 n] w fun e w' => ∃ v, e = .returned v ∧ Bs w' w.heap.size v (enc (fold1 n)) ∧ Below w.heap.size w w' := by
 have a8 := qZ (bH0 n h);have H := qZ h;clear h;go_enter Tryz.func119, Tryz.ntmps119
 go_wp2_with fail
 refine (cM1 n H.out _).mono ?_;rintro e w1 ⟨rfl, rfl⟩;go_wp2_with fail
 refine (cF4 (.slice none 0 0) [] (fold1 n) w.heap.size w a8.out (by simp) (lR _) (Own.nil _ _ _)).mono ?_;rintro e w1 ⟨v, rfl, a7, hg, _⟩;have hb := aG5 hg;clear hg;go_wp2;go_ret
 exact ⟨v, rfl, a7, hb⟩
theorem cZ4 (s : ByteArray) (w : World) (h : 65535 < s.size) (h2 : s.size <= 9223372036854775807) :
  Calls Tryz.prog 116 #[.string s] w fun e w' => e = .returned (.tuple #[.slice none 0 0, .int .i64 2]) ∧ w = w' := by
 go_enter Tryz.func116, Tryz.ntmps116
 go_wp2;go_ret2
 exact ⟨rfl, rfl⟩
theorem cG2 (s : ByteArray) : Lib.strCells s = cells s.data.toList := rfl
theorem dL4 (s : ByteArray) (w : World) (h : s.size <= 65535) :
  Calls Tryz.prog 116 #[.string s] w fun e w' => ∃ v, e = .returned (.tuple #[v, .int .i64 0]) ∧ Bs w' w.heap.size v (enc s.size ++ s.data.toList) ∧ Below w.heap.size w w' := by
 obtain ⟨i0, hi, f9, g6, g7⟩ := info_parts aG0;go_enter Tryz.func116, Tryz.ntmps116
 go_wp2_with fail
 refine (cF4 (.slice none 0 0) [] s.size w.heap.size w (by omega) (by simp) (lR _) (Own.nil _ _ _)).mono ?_;rintro e w1 ⟨v, rfl, a9, hg, _⟩;have hb := aG5 hg;clear hg;have f7 := aM0 s.size (by omega);have a8 : w1.ownsRow w.heap.size 5 1 v (enc s.size).length (cells (enc s.size)) := by have := a9; unfold Bs Own at this; rw [aA2] at this; exact this
 have f8 := hb.size;go_wp2_with (at_builtin; refine Lib.wpList_append_own_string _ rfl (.tmp 10) (.tmp 11) 34 9 rfl w.heap.size 5 i0 Tryz.underlying34 Tryz.underlying9 hi f9 g6 g7 v (enc s.size).length (cells (enc s.size)) rfl a8 s rfl (by unfold maxLen; omega) (by omega) (by omega) ?_)
 intro v' w2 a7 d8 _;have b8 : Bs w2 w.heap.size v' (enc s.size ++ s.data.toList) := by
  unfold Bs Own;rw [aA2, lT, aN7];rw [cG2] at a7;exact a7
 have e9 : Below w.heap.size w w2 := hb.grown d8 f8 (fun k hk => (a9.lt k hk).1);clear a7 d8 a9 a8 hb;go_wp2;go_ret2
 exact ⟨v', rfl, b8, e9⟩
end
section
open Go.RowKit Oct
end
section
open Go.RowKit Oct
theorem aZ7 (l : List UInt8) : ∀ u ∈ cells l, u.oneCell' = true := by
 intro u hu;obtain ⟨_, _, rfl⟩ := List.mem_map.1 hu
 rfl
theorem bB4 (m : Nat) (l : List UInt8) : (aB9 m l).1 <= m := cI2 m l
end
section
open Go.RowKit Oct
theorem aX2 (m : Nat) (l : List UInt8) : (aB9 m l).2.1 <= l.length := by
 unfold aB9;have := bS4 m l;show (if (cnt m l).2.2 = 0 then (cnt m l).2.1 else 0) <= _
 split <;> omega
theorem dF6 {m : Nat} {l : List UInt8} (h : (aB9 m l).2.2 = 0) : (aB9 m l).2.1 = (cnt m l).2.1 := if_pos h
end
section
open Go.RowKit Oct
def aP9 (w : World) (base : Nat) (v : Value) : Prop :=
 v = .slice none 0 0 ∨ ∃ g n cap cur, v = .slice (some ⟨g, 0, none⟩) n cap ∧ base <= g ∧ Blk w g 5 cur ∧ cap <= cur.size ∧ n <= cap ∧ cap <= 9223372036854775807
def cC7 (w : World) (v : Value) (x : Int) : Prop :=
 v = .slice none 0 0 ∨ ∃ g n cap rest, v = .slice (some ⟨g, 0, none⟩) n cap ∧ Blk w g 5 (List.replicate cap (Value.int .u8 x) ++ rest).toArray ∧ n <= cap ∧ cap <= 9223372036854775807
structure aT4 (vs : List Value) (w w' : World) : Prop where
 os : w'.os = w.os
 tape : w'.tape = w.tape
 output : w'.output = w.output
 size : w'.heap.size = w.heap.size
 block : ∀ k, (∀ v ∈ vs, v.ownBlock ≠ some k) -> w'.heap[k]? = w.heap[k]?
def dO3 (vs : List Value) : Prop := ∀ i j (hi : i < vs.length) (hj : j < vs.length), i ≠ j -> ∀ g, vs[i].ownBlock = some g -> vs[j].ownBlock ≠ some g
theorem aT4.refl (vs : List Value) (w : World) : aT4 vs w w := ⟨rfl, rfl, rfl, rfl, fun _ _ => rfl⟩
theorem aT4.drewN {vs : List Value} {w w' : World} (h : aT4 vs w w') (n : Nat) : aT4 vs w (w'.drewN n) := ⟨h.os, h.tape, h.output, h.size, h.block⟩
theorem aT4.set {vs : List Value} {w w' : World} (h : aT4 vs w w') {v : Value} (hv : v ∈ vs) {g : Nat} (hg : v.ownBlock = some g) (i : Nat) (u : Value) : aT4 vs w (w'.setCell ⟨g, i, none⟩ u) :=
 ⟨h.os, h.tape, h.output, by simp [World.setCell, h.size], fun k hk => (Below.heap_setCell _ _ _ _ (by rintro rfl; exact hk v hv hg)).trans (h.block k hk)⟩
theorem aT4.rd {vs : List Value} {w w' : World} (h : aT4 vs w w') {B : Nat} {A : Option Addr} {xs : List Value} (hr : Rd w B A xs) (hne : ∀ ad, A = some ad -> ∀ v ∈ vs, v.ownBlock ≠ some ad.block) : Rd w' B A xs := fun hn => by
 obtain ⟨ad, rfl, hb, hc⟩ := hr hn;exact ⟨ad, rfl, hb, fun j u hu => (World.cell?_of_block (w := w) (by rw [aC5]; exact h.block _ (hne ad rfl))).trans (hc j u hu)⟩
theorem aT4.below {vs : List Value} {w w' : World} (h : aT4 vs w w') {base : Nat} (hb : ∀ v ∈ vs, ∀ k, v.ownBlock = some k -> base <= k) : Below base w w' :=
 ⟨h.os, h.tape, h.output, by rw [h.size]; exact lR _, fun k hk => h.block k fun v hv hg => by have := hb v hv k hg; omega⟩
theorem aP9.base {w : World} {base : Nat} {v : Value} (h : aP9 w base v) : ∀ k, v.ownBlock = some k -> base <= k := by
 rintro k hk;rcases h with rfl | ⟨g, n, cap, a7, rfl, hb, _⟩
 ·simp [Value.ownBlock] at hk
 simp [Value.ownBlock] at hk; omega
theorem aP9.keep {w w' : World} {base : Nat} {v : Value} (h : aP9 w base v) (hk : ∀ g, v.ownBlock = some g -> w'.heap[g]? = w.heap[g]?) : aP9 w' base v := by
 rcases h with rfl | ⟨g, n, cap, a8, rfl, hb, a7, r⟩
 ·exact .inl rfl
 exact .inr ⟨g, n, cap, a8, rfl, hb, (hk g rfl).trans a7, r⟩
theorem cC7.keep {w w' : World} {v : Value} {x : Int} (h : cC7 w v x) (hk : ∀ g, v.ownBlock = some g -> w'.heap[g]? = w.heap[g]?) : cC7 w' v x := by
 rcases h with rfl | ⟨g, n, cap, rest, rfl, a7, r⟩
 ·exact .inl rfl
 exact .inr ⟨g, n, cap, rest, rfl, (hk g rfl).trans a7, r⟩
theorem aP9.of_own {w : World} {base : Nat} {v : Value} {l : List UInt8} (h : Bs w base v l) : aP9 w base v := by
 rcases Own.whole h with ⟨rfl, _⟩ | ⟨g, cap, a8, rfl, hb, hg, a7, hn, hc, hs, _⟩
 ·exact .inl rfl
 exact .inr ⟨g, _, cap, a8, rfl, hb, a7, Nat.le_of_eq hs.symm, hn, by unfold maxLen at hc; omega⟩
theorem cT0 (cap q : Nat) (x : Value) (cur : List Value) (a7 : cap <= cur.length) (hq : q < cap) :
  (List.replicate q x ++ cur.drop q).toArray.setIfInBounds q x = (List.replicate (q + 1) x ++ cur.drop (q + 1)).toArray := by
 have h : cur.drop q = cur[q] :: cur.drop (q + 1) := List.drop_eq_getElem_cons (by omega);rw [h, List.replicate_succ', List.append_assoc];simp only [List.setIfInBounds_toArray];rw [List.set_append, if_neg (by simp)];simp
 rw [h]
 rfl
theorem bV9.rd {w : World} {g : Nat} {l : List UInt8} (h : bV9 w g l) : Rd w (g + 1) (some ⟨g, 0, none⟩) (cells l) := by
 intro _;refine ⟨_, rfl, by simp, fun j u hu => ?_⟩;rw [show (⟨g, 0, none⟩ : Addr).add j = ⟨g, j, none⟩ by simp [Addr.add_lit], Blk.cell h];have hj : j < (cells l).length := (List.getElem?_eq_some_iff.1 hu).1;simp only [List.getElem?_toArray];rw [List.getElem?_append_left hj];exact hu
theorem bV9.below {w w' : World} {g B : Nat} {l : List UInt8} (h : bV9 w g l) (hb : Below B w w') (hg : g < B) : bV9 w' g l := Blk.below h hb hg
theorem Rd.lower {w : World} {B B' : Nat} {A : Option Addr} {xs : List Value} (h : Rd w B A xs) (hB : ∀ ad, A = some ad -> ad.block < B') : Rd w B' A xs := fun hn => by
 obtain ⟨ad, rfl, _, hc⟩ := h hn;exact ⟨ad, rfl, hB ad rfl, hc⟩
theorem aP9.lt {w : World} {base : Nat} {v : Value} (h : aP9 w base v) : ∀ g, v.ownBlock = some g -> g < w.heap.size := by
 rintro k hk;rcases h with rfl | ⟨g, n, cap, a8, rfl, hb, a7, _⟩
 ·simp [Value.ownBlock] at hk
 simp [Value.ownBlock] at hk; rw [<- hk]; exact a7.lt
theorem aP9.alloc {w : World} {base : Nat} {v : Value} (h : aP9 w base v) (o : Obj) : aP9 (w.alloc o) base v :=
 h.keep fun g hg => Below.heap_alloc w o g (h.lt g hg)
end
section
open Go.RowKit Oct
def cZ8 (w : World) (A : Option Addr) (cap : Nat) (cur : List Value) : Prop := cur.length = cap ∧ (0 < cap -> ∃ g, A = some ⟨g, 0, none⟩ ∧ Blk w g 3 cur.toArray)
theorem cZ8.of_own {w : World} {base : Nat} {v : Value} {z : List Int} (h : Is w base v z) : ∃ A cap a7, v = .slice A z.length cap ∧ cap <= 9223372036854775807 ∧ cZ8 w A cap a7 ∧ ∀ g, A = some ⟨g, 0, none⟩ -> base <= g := by
 rcases Own.whole h with ⟨rfl, hz⟩ | ⟨g, cap, a7, rfl, hb, hg, a8, hn, hc, hs, _⟩
 ·have : z = [] := by simpa using hz
  subst this;exact ⟨none, 0, [], rfl, by omega, ⟨rfl, fun h => absurd h (by omega)⟩, fun g h => by cases h⟩
 rw [lU];refine ⟨_, cap, a7.toList, rfl, by unfold maxLen at hc; omega, ⟨by simpa using hs, fun _ => ⟨g, rfl, by unfold Blk; simpa using a8⟩⟩, fun g' h => ?_⟩;injection h with h
 injection h with h
 omega
theorem cZ8.set {w : World} {g cap q : Nat} {x : Value} {cur : List Value} (hb : Blk w g 3 (List.replicate q x ++ cur.drop q).toArray) (a7 : cur.length = cap) (hq : q < cap) :
  cZ8 (w.setCell ⟨g, q, none⟩ x) (some ⟨g, 0, none⟩) cap (List.replicate (q + 1) x ++ cur.drop (q + 1)) := by
 refine ⟨by simp; omega, fun _ => ⟨g, rfl, ?_⟩⟩;rw [<- cT0 cap q x cur (Nat.le_of_eq a7.symm) hq];exact hb.set_ q x
theorem cZ8.far {w : World} {A : Option Addr} {cap : Nat} {cur : List Value} (h : cZ8 w A cap cur) {g : Nat} (a7 : A ≠ some ⟨g, 0, none⟩) (q : Nat) (u : Value) : cZ8 (w.setCell ⟨g, q, none⟩ u) A cap cur := by
 refine ⟨h.1, fun h0 => ?_⟩;obtain ⟨g', rfl, hb⟩ := h.2 h0;exact ⟨g', rfl, hb.far (by rintro rfl; exact a7 rfl) u⟩
theorem cZ8.keep {w w' : World} {A : Option Addr} {cap : Nat} {cur : List Value} (h : cZ8 w A cap cur) (hk : ∀ g, A = some ⟨g, 0, none⟩ -> w'.heap[g]? = w.heap[g]?) : cZ8 w' A cap cur := by
 refine ⟨h.1, fun h0 => ?_⟩;obtain ⟨g', rfl, hb⟩ := h.2 h0;exact ⟨g', rfl, (hk g' rfl).trans hb⟩
end
end Go.Proofs.YtgeofijddhflaaaGreatDoor
