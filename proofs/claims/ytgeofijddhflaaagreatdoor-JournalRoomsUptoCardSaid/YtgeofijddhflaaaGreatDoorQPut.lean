/- octet.put: it puts a count's bytes behind a row of the call's own. Condition: the row's length, 10 added, is at most 2^47. -/
import Derived.Test.YtgeofijddhflaaaGreatDoorQMem
import Derived.Test.YtgeofijddhflaaaGreatDoorChecked
import Derived.Laws.BitsAllLaws
import Derived.WalkKit
import Derived.WalkLawsBesides
import Derived.Lib.Hide
import Derived.Outline
import Derived.BigQuiet
import Derived.Deep.QuietTactic
import Derived.StillTailTactics
import Derived.StillTail
import Derived.Deep.Quiet
namespace Go.Proofs.YtgeofijddhflaaaGreatDoor
open Go.RowKit Oct
theorem info_u8 : (Tryz.prog.info? 5).map (fun i => (i.zero, i.size, i.bytes)) = some (some (.int .u8 0), 1, 1) := by kernel_rfl
abbrev Bs (w : World) (base : Nat) (v : Value) (l : List UInt8) : Prop := Own w base 5 v (cells l)
theorem bs_shape {w : World} {base : Nat} {v : Value} {l : List UInt8} (h : Bs w base v l) : ∃ A c, v = .slice A l.length c ∧ l.length ≤ c ∧ c ≤ 9223372036854775807 ∧ Rd w w.heap.size A (cells l) := by
 obtain ⟨A, c, hv, hc, hm, hr⟩ := Own.shape h
 rw [cells_length] at hv hc
 exact ⟨A, c, hv, hc, by unfold maxLen at hm; omega, hr⟩
theorem str_of {w : World} {B : Nat} {A : Option Addr} {l : List UInt8} (c : Nat) (h : Rd w B A (cells l)) : (convert 34 9 (.slice A l.length c)).run Tryz.prog w = .ok (.string (str l)) w :=
 run_str 34 9 5 Tryz.underlying34 Tryz.underlying5 Tryz.underlying9 _ c rfl h
theorem or_digit (n j : Nat) : bits .or .u8 ((n : Int) / 2 ^ (7 * j) % 256) 128 = ((dig7 (n / 128 ^ j)).toNat : Int) := by
 unfold dig7
 rw [pow7_int, ← Int.natCast_ediv, toNat_ofNat8 _ (by omega), ← mod128_or, u8_or _ _ (by omega) (by omega) (by omega) (by omega)]
 congr 1
theorem andNot_digit (n : Nat) : bits .andNot .u8 ((n : Int) % 256) 128 = ((low7 n).toNat : Int) := by
 unfold low7
 rw [toNat_ofNat8 _ (by omega), u8_andNot _ _ (by omega) (by omega) (by omega) (by omega)]
 have h : ∀ x : Fin 256, x.val &&& 127 = x.val % 128 := by decide +kernel
 have := h ⟨n % 256, Nat.mod_lt _ (by omega)⟩
 simp only at this
 have e1 : ((n : Int) % 256).toNat = n % 256 := by omega
 rw [e1]
 show (((n % 256) &&& 127 : Nat) : Int) = _
 omega
set_option maxRecDepth 100000 in
theorem put_any (v : Value) (l : List UInt8) (n : Nat) (base : Nat) (w : World) (hn : n < 2^64) (hl : l.length + 11 ≤ 140737488355328) (hb : base ≤ w.heap.size)
  (hown : Bs w base v l) :
  Calls Tryz.prog 157 #[v, .int .u64 n] w fun e w' => ∃ v', e = .returned v' ∧ Bs w' base v' (l ++ enc n) ∧ w.grownBy w' v.ownBlock ∧ Fresh v' v.ownBlock w.heap.size := by
 have Hn := Lib.hid hn
 clear hn
 go_enter Tryz.func157, Tryz.ntmps157
 go_wp2
 go_loop [5] (fun s => ∃ k : Nat, k ≤ 9 ∧ s = .int .i64 (7 * k : Nat) ∧ Big n k) (fun s => 64 - (intOf s).toNat)
 case atStart => exact ⟨0, by omega, rfl, .inl rfl⟩
 case round =>
  obtain ⟨k, hk, rfl, hkk⟩ := hrel
  go_wp2
  ·have h128 : (128 : Int) ≤ (n : Int) / 2 ^ (7 * k) := by assumption
   have hk9 : k < 9 := shift_lt Hn.out h128
   have hB : Big n (k + 1) := .inr (by rw [Nat.add_sub_cancel]; exact big_of h128)
   go_round
   case rel => exact ⟨k + 1, by omega, by go_num, hB⟩
   case measure => simp [intOf]; omega
  ·have hlt : (n : Int) / 2 ^ (7 * k) < 128 := by assumption
   have hst := digs_start hlt
   go_loopw [0, 5] (fun b s wr => ∃ j : Nat, j ≤ k ∧ s = .int .i64 (7 * j : Nat) ∧ Bs wr base b (l ++ digs (n / 128 ^ (j + 1))) ∧ w.grownBy wr v.ownBlock ∧ Fresh b v.ownBlock w.heap.size) (fun _ s _ => (intOf s).toNat)
   case atStart => exact ⟨k, Nat.le_refl _, rfl, by rw [hst, List.append_nil]; exact hown, World.grownBy.refl _ _, .inl rfl⟩
   case round =>
    clear hst
    obtain ⟨j, hj, rfl, hown1, hg1, hat⟩ := hrel
    have hlen : (l ++ digs (n / 128 ^ (j + 1))).length ≤ l.length + 10 := by
     have := digs_len (n / 128 ^ (j + 1)) 10 (by have := Hn.out; have : n / 128 ^ (j + 1) ≤ n := Nat.div_le_self _ _; omega)
     simp; omega
    have hsz := hg1.size
    by_cases h0 : 0 < j
    ·have hst := digs_step hkk hj h0
     have HST := Lib.hid hst
     clear hst
     go_wp2_with (at_builtin; refine wpList_push rfl (.tmp 16) (.tmp 22) 34 rfl base 5 (.int .u8 0) 1 Tryz.underlying34 info_u8 rfl _ _ _ _ (congrArg (Value.int .u8) (or_digit n j)) rfl hown1 rfl rfl (by rw [cells_length]; omega) (by rw [cells_length]; omega) (by omega) ?_)
     intro v' w1 hown' hg' hf'
     have hown2 : Bs w1 base v' (l ++ digs (n / 128 ^ j)) := by rw [HST.out, ← List.append_assoc]; unfold Bs; rw [cells_append]; exact hown'
     have hgg := grown_then hg1 hg' hat
     have hff := fresh_then hat hf' hsz
     clear hown' hg' hf' hown1 hg1 hat
     go_wp2
     go_roundw
     case rel => exact ⟨j - 1, by omega, by go_num, by rw [show j - 1 + 1 = j by omega]; exact hown2, hgg, hff⟩
     case measure => simp [intOf]; omega
    ·obtain rfl : j = 0 := by omega
     go_wp2_with (at_builtin; refine wpList_push rfl (.tmp 24) (.tmp 28) 34 rfl base 5 (.int .u8 0) 1 Tryz.underlying34 info_u8 rfl _ _ _ _ (congrArg (Value.int .u8) (andNot_digit n)) rfl hown1 rfl rfl (by rw [cells_length]; omega) (by rw [cells_length]; omega) (by omega) ?_)
     intro v' w1 hown' hg' hf'
     have hgg := grown_then hg1 hg' hat
     have hff := fresh_then hat hf' hsz
     have hown2 : Bs w1 base v' (l ++ enc n) := by
      unfold Bs enc
      rw [← List.append_assoc, cells_append]
      exact hown'
     clear hown' hg' hf' hown1 hg1 hat
     go_wp2
     go_ret
     exact ⟨v', rfl, hown2, hgg, hff⟩
end Go.Proofs.YtgeofijddhflaaaGreatDoor
namespace Go.Proofs.YtgeofijddhflaaaGreatDoor
open Go.RowKit Oct
theorem uint_neg (n : Int) (w : World) (h : n < 0) :
  Calls Tryz.prog 115 #[.int .i64 n] w fun e w' => e = .returned (.tuple #[.slice none 0 0, .int .i64 1]) ∧ w = w' := by
 go_enter Tryz.func115, Tryz.ntmps115
 go_wp2
 go_ret2
 exact ⟨rfl, rfl⟩
theorem uint_pos (n : Nat) (w : World) (h : n ≤ 9223372036854775807) :
  Calls Tryz.prog 115 #[.int .i64 n] w fun e w' => ∃ v, e = .returned (.tuple #[v, .int .i64 0]) ∧ Bs w' w.heap.size v (enc n) ∧ Below w.heap.size w w' := by
 go_enter Tryz.func115, Tryz.ntmps115
 go_wp2_with fail
 refine (put_any (.slice none 0 0) [] n w.heap.size w (by omega) (by simp) (Nat.le_refl _) (Own.nil _ _ _)).mono ?_
 rintro e w1 ⟨v, rfl, hown, hg, _⟩
 have hb := below_of_grown hg
 clear hg
 go_wp2
 go_ret2
 exact ⟨v, rfl, hown, hb⟩
theorem uint_at (n : Nat) (M : Int) (hM : M = (n : Int)) (w : World) (h : n ≤ 9223372036854775807) :
  Calls Tryz.prog 115 #[.int .i64 M] w fun e w' => ∃ v, e = .returned (.tuple #[v, .int .i64 0]) ∧ Bs w' w.heap.size v (enc n) ∧ Below w.heap.size w w' := by
 subst hM
 exact uint_pos n w h
end Go.Proofs.YtgeofijddhflaaaGreatDoor
set_option linter.unusedVariables false
namespace Go.Proofs.YtgeofijddhflaaaGreatDoor
open Go.RowKit Oct
abbrev Tk (w : World) (g : Nat) (a e : Int) (s : Value) : Prop := Blk w g 220 #[.int .i64 a, .int .i64 e, s]
theorem tk_cells {w : World} {g : Nat} {a e : Int} {s : Value} (h : Tk w g a e s) :
  w.cell? ⟨g, 0, none⟩ = some (.int .i64 a) ∧ w.cell? ⟨g, 1, none⟩ = some (.int .i64 e) ∧ w.cell? ⟨g, 2, none⟩ = some s ∧ w.frozen? ⟨g, 0, none⟩ = false ∧ w.frozen? ⟨g, 1, none⟩ = false :=
 ⟨h.cell 0, h.cell 1, h.cell 2, h.frozen 0, h.frozen 1⟩
theorem on_err (g : Nat) (a e n m : Int) (s : Value) (w : World) (h : Tk w g a e s) (he : e ≠ 0) :
  Calls Tryz.prog 205 #[.pointer (some ⟨g, 0, none⟩), .int .i64 n, .int .i64 m] w fun e' w' => e' = .returned (.bool false) ∧ w = w' := by
 obtain ⟨h0, h1, h2, f0, f1⟩ := tk_cells h
 clear h
 have he' : (e == 0) = false := by simpa using he
 go_enter Tryz.func205, Tryz.ntmps205
 go_wp2
 go_ret
 exact ⟨rfl, rfl⟩
theorem on_end (g : Nat) (a n m : Int) (s : Value) (w : World) (h : Tk w g a 0 s) (hn : m - a < n) (b1 : -4611686018427387904 ≤ m - a) (b2 : m - a ≤ 4611686018427387904) :
  Calls Tryz.prog 205 #[.pointer (some ⟨g, 0, none⟩), .int .i64 n, .int .i64 m] w fun e' w' => e' = .returned (.bool false) ∧ Tk w' g a 3 s ∧ w.grownBy w' (some g) := by
 obtain ⟨h0, h1, h2, f0, f1⟩ := tk_cells h
 have hfin : Tk (w.setCell ⟨g, 1, none⟩ (.int .i64 3)) g a 3 s ∧ w.grownBy (w.setCell ⟨g, 1, none⟩ (.int .i64 3)) (some g) := ⟨h.set_ 1 _, grown_setCell _ _ _ _⟩
 clear h
 go_enter Tryz.func205, Tryz.ntmps205
 go_wp2
 go_ret
 exact ⟨rfl, hfin⟩
theorem on_ok (g : Nat) (a n m : Int) (s : Value) (w : World) (h : Tk w g a 0 s) (hn : n ≤ m - a) (b1 : -4611686018427387904 ≤ m - a) (b2 : m - a ≤ 4611686018427387904) (b3 : 0 ≤ a) (b4 : 0 ≤ n) (b5 : m ≤ 4611686018427387904) :
  Calls Tryz.prog 205 #[.pointer (some ⟨g, 0, none⟩), .int .i64 n, .int .i64 m] w fun e' w' => e' = .returned (.bool true) ∧ Tk w' g (a + n) 0 s ∧ w.grownBy w' (some g) := by
 obtain ⟨h0, h1, h2, f0, f1⟩ := tk_cells h
 have hfin : Tk (w.setCell ⟨g, 0, none⟩ (.int .i64 (a + n))) g (a + n) 0 s ∧ w.grownBy (w.setCell ⟨g, 0, none⟩ (.int .i64 (a + n))) (some g) := ⟨h.set_ 0 _, grown_setCell _ _ _ _⟩
 clear h
 go_enter Tryz.func205, Tryz.ntmps205
 go_wp2
 go_ret
 exact ⟨rfl, hfin⟩
theorem wrong_err (g : Nat) (a e c : Int) (b : Bool) (s : Value) (w : World) (h : Tk w g a e s) (he : e ≠ 0) :
  Calls Tryz.prog 211 #[.pointer (some ⟨g, 0, none⟩), .bool b, .int .i64 c] w fun e' w' => e' = .returned (.bool true) ∧ w = w' := by
 obtain ⟨h0, h1, h2, f0, f1⟩ := tk_cells h
 clear h
 have he' : (e == 0) = false := by simpa using he
 have he2 : (e != 0) = true := by simpa using he
 go_enter Tryz.func211, Tryz.ntmps211
 go_wp2
 go_ret
 exact ⟨rfl, rfl⟩
theorem wrong_no (g : Nat) (a c : Int) (s : Value) (w : World) (h : Tk w g a 0 s) :
  Calls Tryz.prog 211 #[.pointer (some ⟨g, 0, none⟩), .bool false, .int .i64 c] w fun e' w' => e' = .returned (.bool false) ∧ w = w' := by
 obtain ⟨h0, h1, h2, f0, f1⟩ := tk_cells h
 clear h
 go_enter Tryz.func211, Tryz.ntmps211
 go_wp2
 go_ret
 exact ⟨rfl, rfl⟩
theorem wrong_yes (g : Nat) (a c : Int) (s : Value) (w : World) (h : Tk w g a 0 s) (hc : c ≠ 0) :
  Calls Tryz.prog 211 #[.pointer (some ⟨g, 0, none⟩), .bool true, .int .i64 c] w fun e' w' => e' = .returned (.bool true) ∧ Tk w' g a c s ∧ w.grownBy w' (some g) := by
 obtain ⟨h0, h1, h2, f0, f1⟩ := tk_cells h
 have hfin : Tk (w.setCell ⟨g, 1, none⟩ (.int .i64 c)) g a c s ∧ w.grownBy (w.setCell ⟨g, 1, none⟩ (.int .i64 c)) (some g) := ⟨h.set_ 1 _, grown_setCell _ _ _ _⟩
 clear h
 have he2 : (c != 0) = true := by simpa using hc
 go_enter Tryz.func211, Tryz.ntmps211
 go_wp2
 go_ret
 exact ⟨rfl, hfin⟩
def usedOf (a e : Int) : Int := if e = 0 then a else 0
theorem used_any (g : Nat) (a e : Int) (s : Value) (w : World) (h : Tk w g a e s) :
  Calls Tryz.prog 187 #[.pointer (some ⟨g, 0, none⟩)] w fun e' w' => e' = .returned (.int .i64 (usedOf a e)) ∧ w' = w := by
 obtain ⟨h0, h1, h2, f0, f1⟩ := tk_cells h
 clear h
 by_cases he : e = 0
 ·subst he
  rw [show usedOf a 0 = a from rfl]
  go_enter Tryz.func187, Tryz.ntmps187
  go_wp2
  go_ret
  exact ⟨rfl, rfl⟩
 ·have he2 : (e != 0) = true := by simpa using he
  rw [show usedOf a e = 0 from if_neg he]
  go_enter Tryz.func187, Tryz.ntmps187
  go_wp2
  go_ret
  exact ⟨rfl, rfl⟩
end Go.Proofs.YtgeofijddhflaaaGreatDoor
set_option linter.unusedVariables false
namespace Go.Proofs.YtgeofijddhflaaaGreatDoor
section
variable {P : Program} {ops : Array Oper} {md : Region.Mode} {C : World → Prop}
def anyQ (P : Program) (md : Region.Mode) (ops : Array Oper) (C : World → Prop) (n : Nat) (L : Array Bool → Act → Prop) : Nat → Array Bool → Act → Prop
 | 0, listed, a => L listed a
 | f + 1, listed, a => Region.ready md ops listed ≠ [] ∧ ∀ i ∈ Region.ready md ops listed, i < n ∧ qOp P ops C i (anyQ P md ops C n L f (listed.setIfInBounds i true)) a
theorem any_of_head {n g : Nat} {L : Array Bool → Act → Prop} {Q' : Exit → Act → World → Prop} (hL : ∀ listed a w, C w → L listed a → wpAny P md ops Q' g listed a w) :
  ∀ (f : Nat) (listed : Array Bool) (a : Act) (w : World), C w → anyQ P md ops C n L f listed a → wpAny P md ops Q' (f + g) listed a w
 | 0, listed, a, w, hw, h => by rw [Nat.zero_add]; exact hL _ _ _ hw h
 | f + 1, listed, a, w, hw, h => by
  rw [show f + 1 + g = (f + g) + 1 by omega]
  exact ⟨fun h0 => absurd h0 h.1, fun i hi => wpOp_of_qOp hw (fun a' w' hw' h' => any_of_head hL f _ a' w' hw' h') (h.2 i hi).2⟩
theorem anyQ_first {n i : Nat} {oi : Oper} {v : Value} {L : Array Bool → Act → Prop} (hi : ops[i]? = some oi) (hsel : ∀ (j : Nat) (o : Oper) cs b, ops[j]? = some o → o.op ≠ .select cs b)
  (hs : Region.sinkB md ops n = true) (hc : Region.chainB md ops n = true) (hn : n < ops.size) (hin : i < n)
  (hdone : ∀ listed a, L listed a → ∀ j ∈ Region.ready md ops listed, n ≤ j) :
  ∀ (f : Nat) (listed : Array Bool) (a : Act), HeadInv md ops n listed →
   (∀ j oj, ops[j]? = some oj → j ≠ i → listed.getD j true = false → (∀ e ∈ oj.after, Region.binds md e = true → e.on ≠ i) → oi.apart ops oj = true) →
   i ∈ Region.ready md ops listed → YieldsIn P ops C oi v a →
   anyQ P md ops C n L f (listed.setIfInBounds i true) (a.put oi.dst v) → anyQ P md ops C n L (f + 1) listed a := by
 intro f
 induction f with
 | zero =>
  intro listed a inv _ hr hy H
  refine ⟨fun h => (by rw [h] at hr; cases hr), fun j hj => ?_⟩
  have hjn : j < n := by
   rcases Nat.lt_or_ge j n with h | h
   ·exact h
   ·exact absurd hj (tail_waits hs hc hn inv _ i rfl hin (mem_ready.1 hr).1 j h)
  refine ⟨hjn, ?_⟩
  by_cases hji : j = i
  ·subst hji; exact hy.qOp hi H
  ·have := hdone _ _ H j (ready_mono hj hji)
   omega
 | succ f ih =>
  intro listed a inv hfree hr hy H
  have hun := (mem_ready.1 hr).1
  refine ⟨fun h => (by rw [h] at hr; cases hr), fun j hj => ?_⟩
  have hjn : j < n := by
   rcases Nat.lt_or_ge j n with h | h
   ·exact h
   ·exact absurd hj (tail_waits hs hc hn inv _ i rfl hin hun j h)
  refine ⟨hjn, ?_⟩
  by_cases hji : j = i
  ·subst hji; exact hy.qOp hi H
  ·have h1 := (H.2 j (ready_mono hj hji)).2
   obtain ⟨hjun, oj, hoj, hall⟩ := mem_ready.1 hj
   have hnot : ∀ e ∈ oj.after, Region.binds md e = true → e.on ≠ i := fun e he hb heq => by
    have h1 := hall e he hb
    rw [heq, getD_both hun] at h1
    cases h1
   have h2 := qOp_put hoj (hfree j oj hoj hji hjun hnot) (fun cs b => hsel i oi cs b hi) (fun cs b => hsel j oj cs b hoj) hy h1
   have hfree' : ∀ k ok, ops[k]? = some ok → k ≠ i → (listed.setIfInBounds j true).getD k true = false →
     (∀ e ∈ ok.after, Region.binds md e = true → e.on ≠ i) → oi.apart ops ok = true := fun k ok hk hki hun hno => by
    refine hfree k ok hk hki ?_ hno
    by_cases hjk : j = k
    ·subst hjk; exact hjun
    ·rw [getD_set_ne true hjk] at hun; exact hun
   refine qOp_mono (fun a' h3 => ih (listed.setIfInBounds j true) a' (inv.set hj hjn) hfree' (ready_mono hr (Ne.symm hji)) h3.1 ?_) h2
   rw [Array.setIfInBounds_comm _ _ hji]
   exact h3.2
theorem anyQ_lex {n g : Nat} {Lq : Act → Prop} (hsel : Region.noSelect ops = true) (hs : Region.sinkB md ops n = true) (hc : Region.chainB md ops n = true) (hn : n < ops.size) :
  ∀ (l : List Oper) (k : Nat) (listed : Array Bool) (a : Act), (∀ j, j < l.length → l[j]? = ops[k + j]?) → k + l.length = n → HeadInv md ops n listed →
  Region.lexHead md ops g l.length k listed = true → wpQuiet P ops C Lq l a →
  anyQ P md ops C n (fun listed' a' => Region.seqB md ops g n listed' = true ∧ Lq a') l.length listed a
 | [], k, listed, a, _, hk, _, hB, h => by
  have : k = n := by simpa using hk
  subst this
  exact ⟨by simpa [Region.lexHead] using hB, h⟩
 | o :: l, k, listed, a, hl, hk, inv, hB, h => by
  have h0 : ops[k]? = some o := by simpa using (hl 0 (by simp)).symm
  simp only [List.length_cons, Region.lexHead, Bool.and_eq_true] at hB
  obtain ⟨⟨hr, hf⟩, hB'⟩ := hB
  have hkn : k < n := by simp only [List.length_cons] at hk; omega
  have hr' : k ∈ Region.ready md ops listed := by simpa using hr
  have hst : qOp P ops C k (wpQuiet P ops C Lq l) a := by unfold qOp; simp only [h0]; exact h
  obtain ⟨v, hy, hK⟩ := yieldsIn_of_qOp h0 hst
  exact anyQ_first h0 (Region.noSelect_spec hsel) hs hc hn hkn (fun listed' a' hL => seqB_ready hL.1) l.length listed a inv (Region.free_spec h0 hf) hr' hy
   (anyQ_lex hsel hs hc hn l (k + 1) _ _ (fun j hj => by have := hl (j + 1) (by simp; omega); simpa [Nat.add_assoc, Nat.add_comm 1 j] using this) (by simp only [List.length_cons] at hk; omega) (inv.set hr' hkn) hB' hK)
theorem wp_region_quiet_tail {id : Nat} {Q : Exit → Act → World → Prop} {a : Act} {w : World} {l : List Oper} (n : Nat) (hm : P.follows .mixedOrders = true) (hB : Region.lexTailB .any l.toArray n = true)
  (h : wpQuiet P l.toArray (fun w' => ∃ n, w' = w.drewN n) (fun a' => ∀ w', (∃ n, w' = w.drewN n) → wpList P l.toArray Q (l.drop n) a' w') (l.take n) a) : (Code.region id l.toArray true).wp P Q a w := by
 simp only [Region.lexTailB, Bool.and_eq_true, decide_eq_true_eq] at hB
 obtain ⟨⟨⟨⟨hsel, hn⟩, hs⟩, hc⟩, hlex⟩ := hB
 have hn' : n < l.length := by simpa using hn
 have htl : (l.take n).length = n := by simp; omega
 have hdl : (l.drop n).length = l.toArray.size - n := by simp
 have inv0 : HeadInv .any l.toArray n (Array.replicate l.toArray.size false) :=
  ⟨by simp, fun j oj _ hl => (by rw [getD_replicate_false] at hl; cases hl), fun t _ ht => getD_in (by simpa using ht) (getD_replicate_false _ _)⟩
 have H := anyQ_lex (md := .any) (g := l.toArray.size - n) hsel hs hc hn (l.take n) 0 _ a (fun j hj => by
  have hj' : j < n := by rw [htl] at hj; exact hj
  simp [hj']) (by simpa using htl) inv0 (by rw [htl]; exact hlex) h
 refine wp_region_any hm ?_
 have := any_of_head (Q' := Q) (g := l.toArray.size - n) (fun listed a' w' hw' hL => by
  have := wpAny_of_seq (md := .any) (Q' := Q) (l.drop n) n listed a' w' (fun j => by simp [List.getElem?_drop]) (by rw [hdl]; exact hL.1) (hL.2 w' hw')
  rwa [hdl] at this) _ _ _ w.drew ⟨1, rfl⟩ H
 rw [htl, show n + (l.toArray.size - n) = l.toArray.size by omega] at this
 exact this
end
end Go.Proofs.YtgeofijddhflaaaGreatDoor
set_option linter.unusedVariables false
namespace Go.Proofs.YtgeofijddhflaaaGreatDoor
open Go.RowKit Oct
theorem andNot_byte (x : UInt8) : bits .andNot .u8 (x.toNat : Int) 128 = ((x.toNat % 128 : Nat) : Int) := by
 have h := andNot_digit x.toNat
 have hx := x.toNat_lt
 rw [show ((x.toNat : Int) % 256) = x.toNat by omega] at h
 rw [h, low7, toNat_ofNat8 _ (by omega)]
theorem and127 (m : Nat) (hm : m < 2 ^ 64) : bits .and .u64 (m : Int) 127 = ((m % 128 : Nat) : Int) := by
 have := u64_and_nat m 127 (by omega) (by omega)
 rw [show ((127 : Nat) : Int) = 127 from rfl] at this
 rw [this]
 congr 1
 rw [show (127 : Nat) = 2 ^ 7 - 1 from rfl, Nat.and_two_pow_sub_one_eq_mod]
theorem or_join (k d : Nat) (hk : k < 2 ^ 57) (hd : d < 128) : bits .or .u64 ((k : Int) * 128) (d : Int) = ((k * 128 + d : Nat) : Int) := by
 have := u64_or_nat (k * 128) d (by omega) (by omega)
 rw [show ((k * 128 : Nat) : Int) = (k : Int) * 128 by simp] at this
 rw [this]
 congr 1
 have h2 := Nat.two_pow_add_eq_or_of_lt (i := 7) hd k
 rw [show (2 : Nat) ^ 7 = 128 from rfl] at h2
 rw [Nat.mul_comm k 128, ← h2]
def bad (m i k : Nat) (x : UInt8) : Bool := ((i == 0) && x == 128) || decide (m / 128 < k) || (decide (k = m / 128) && decide (m % 128 < x.toNat % 128))
theorem tkc_cons (m i k : Nat) (x : UInt8) (r : List UInt8) : tkc m (i == 0) k i (x :: r) = if bad m i k x then (0, i + 1, 4) else if x.toNat < 128 then (k * 128 + x.toNat % 128, i + 1, 0) else tkc m (i + 1 == 0) (k * 128 + x.toNat % 128) (i + 1) r := by
 rw [tkc]
 rfl
section
variable {a m i k d c g : Nat} {x : UInt8} {l : List UInt8} {w w3 : World} {s : Value}
theorem bad_x (m k : Nat) (hi : i = 0) (hx : x.toNat = 128) : bad m i k x = true := by
 have : x = 128 := UInt8.toNat_inj.1 hx
 subst this; subst hi
 simp [bad]
theorem bad_k (i : Nat) (x : UInt8) (h : m / 128 < k) : bad m i k x = true := by simp [bad, h]
theorem bad_d (i : Nat) (h : m / 128 = k) (hd : m % 128 < x.toNat % 128) : bad m i k x = true := by simp [bad, h, hd]
theorem bad_no (h1 : i ≠ 0 ∨ x.toNat ≠ 128) (h2 : k ≤ m / 128) (h3 : m / 128 = k → x.toNat % 128 ≤ m % 128) : bad m i k x = false := by
 have hx : i = 0 → ¬ x = 128 := by
  rintro hi rfl
  rcases h1 with h1 | h1
  ·exact h1 hi
  ·exact h1 rfl
 simp only [bad, Bool.or_eq_false_iff, Bool.and_eq_false_iff, decide_eq_false_iff_not, beq_eq_false_iff_ne]
 refine ⟨⟨?_, by omega⟩, ?_⟩
 ·by_cases hi : i = 0
  ·exact .inr (hx hi)
  ·exact .inl hi
 ·by_cases hk : k = m / 128
  ·have := h3 hk.symm; exact .inr (by omega)
  ·exact .inl hk
theorem bad_le (h : bad m i k x = false) : k * 128 + x.toNat % 128 ≤ m := by
 simp only [bad, Bool.or_eq_false_iff, Bool.and_eq_false_iff, decide_eq_false_iff_not] at h
 omega
theorem bad_end (hh : Hid (tkc m true 0 0 (l.drop a) = tkc m (i == 0) k i (l.drop (a + i)))) (hd : l.drop (a + i) = x :: l.drop (a + i + 1)) (hb : bad m i k x = true)
  (ht : Tk w3 g (a + i + 1 : Nat) 4 s) (hg : w.grownBy w3 (some g)) :
  Ending.returned (.int .u64 0) = .returned (.int .u64 (tkc m true 0 0 (l.drop a)).1) ∧ Tk w3 g (a + (tkc m true 0 0 (l.drop a)).2.1 : Nat) (tkc m true 0 0 (l.drop a)).2.2 s ∧ w.grownBy w3 (some g) := by
 rw [hh.out, hd, tkc_cons, if_pos hb]
 exact ⟨rfl, ht, hg⟩
theorem good_end {X : Int} (hh : Hid (tkc m true 0 0 (l.drop a) = tkc m (i == 0) k i (l.drop (a + i)))) (hd : l.drop (a + i) = x :: l.drop (a + i + 1)) (hb : bad m i k x = false) (hx : x.toNat < 128)
  (hd7 : d = x.toNat % 128) (hX : X = (k * 128 + d : Nat)) (ht : Tk w3 g (a + i + 1 : Nat) 0 s) (hg : w.grownBy w3 (some g)) :
  Ending.returned (.int .u64 X) = .returned (.int .u64 (tkc m true 0 0 (l.drop a)).1) ∧ Tk w3 g (a + (tkc m true 0 0 (l.drop a)).2.1 : Nat) (tkc m true 0 0 (l.drop a)).2.2 s ∧ w.grownBy w3 (some g) := by
 rw [hh.out, hd, tkc_cons, if_neg (by rw [hb]; exact Bool.false_ne_true), if_pos hx]
 exact ⟨by rw [hX, hd7], ht, hg⟩
theorem good_round {X : Int} (hh : Hid (tkc m true 0 0 (l.drop a) = tkc m (i == 0) k i (l.drop (a + i)))) (hd : l.drop (a + i) = x :: l.drop (a + i + 1)) (hb : bad m i k x = false) (hx : ¬ x.toNat < 128)
  (hd7 : d = x.toNat % 128) (hX : X = (k * 128 + d : Nat)) (ht : Tk w3 g (a + i + 1 : Nat) 0 s) (hg : w.grownBy w3 (some g)) (hlt : a + i < l.length) :
  ∃ i' k' : Nat, a + i' ≤ l.length ∧ Value.int .u64 X = .int .u64 k' ∧ k' ≤ m ∧ Tk w3 g (a + i' : Nat) 0 s ∧ w.grownBy w3 (some g) ∧ Hid (tkc m true 0 0 (l.drop a) = tkc m (i' == 0) k' i' (l.drop (a + i'))) := by
 refine ⟨i + 1, k * 128 + d, by omega, by rw [hX], by rw [hd7]; exact bad_le hb, ht, hg, ?_⟩
 show tkc m true 0 0 (l.drop a) = _
 rw [hh.out, hd, tkc_cons, if_neg (by rw [hb]; exact Bool.false_ne_true), if_neg hx, hd7]
 rfl
theorem good_measure {wr : World} (h1 : w3.cell? ⟨g, 0, none⟩ = some (.int .i64 (a + i + 1 : Nat))) (h0 : Hid (wr.cell? ⟨g, 0, none⟩ = some (.int .i64 (a + i : Nat)))) (hlt : a + i < l.length) :
  l.length - (intOf ((w3.cell? ⟨g, 0, none⟩).getD undef)).toNat < l.length - (intOf ((wr.cell? ⟨g, 0, none⟩).getD undef)).toNat := by
 rw [h1, h0.out]
 simp [intOf]
 omega
end
set_option maxHeartbeats 2000000 in
set_option maxRecDepth 100000 in
theorem count_any (g : Nat) (a m : Nat) (A : Option Addr) (l : List UInt8) (c : Nat) (w : World) (h : Tk w g a 0 (.slice A l.length c)) (hm : m < 2 ^ 64) (ha : a ≤ l.length) (hl : l.length ≤ 4611686018427387904)
  (hr : Rd w g A (cells l)) :
  Calls Tryz.prog 186 #[.pointer (some ⟨g, 0, none⟩), .int .u64 m] w fun e' w' => e' = .returned (.int .u64 (tkc m true 0 0 (l.drop a)).1) ∧
   Tk w' g (a + (tkc m true 0 0 (l.drop a)).2.1 : Nat) (tkc m true 0 0 (l.drop a)).2.2 (.slice A l.length c) ∧ w.grownBy w' (some g) := by
 have Hm := Lib.hid hm
 clear hm
 have htk0 : Tk w g (a + 0 : Nat) 0 (.slice A l.length c) := h
 have hid0 : Hid (tkc m true 0 0 (l.drop a) = tkc m ((0 : Nat) == 0) 0 0 (l.drop (a + 0))) := Lib.hid rfl
 obtain ⟨h0, h1, h2, f0, f1⟩ := tk_cells h
 go_enter Tryz.func186, Tryz.ntmps186
 go_wp2_with fail
 go_quiet (fail)
 go_wp2_with fail
 go_loopw [5, 7, 8] (fun n x y wr => ∃ i k : Nat, a + i ≤ l.length ∧ n = .int .u64 k ∧ k ≤ m ∧ Tk wr g (a + i : Nat) 0 (.slice A l.length c) ∧ w.grownBy wr (some g) ∧ Hid (tkc m true 0 0 (l.drop a) = tkc m (i == 0) k i (l.drop (a + i)))) (fun _ _ _ wr => l.length - (intOf ((wr.cell? ⟨g, 0, none⟩).getD undef)).toNat)
 case atStart => exact ⟨0, 0, by omega, rfl, by omega, htk0, grown_drewN (World.grownBy.refl _ _) _, hid0⟩
 case round =>
  obtain ⟨i, k, hi, rfl, hk, htk, hg, hh⟩ := hrel
  obtain ⟨h0, h1, h2, f0, f1⟩ := tk_cells htk
  by_cases hlt : a + i < l.length
  ·obtain ⟨ad, rfl, hbk, hcell⟩ := rd_at hr hlt
   obtain ⟨x, hx⟩ : ∃ x, x = l[a + i] := ⟨_, rfl⟩
   have hdrop : l.drop (a + i) = x :: l.drop (a + i + 1) := by rw [hx]; exact List.drop_eq_getElem_cons hlt
   rw [← hx] at hcell
   have hxl := x.toNat_lt
   clear hx
   have htk' : ∀ n, Tk (wr.drewN n) g (a + i : Nat) 0 (.slice (some ad) l.length c) := fun _ => htk
   obtain ⟨d, hd⟩ : ∃ d, d = x.toNat % 128 := ⟨_, rfl⟩
   have hd7 : d < 128 := by omega
   have hand : bits .andNot .u8 (x.toNat : Int) 128 = (d : Int) := by rw [andNot_byte, hd]
   have hand2 := and127 m Hm.out
   have HD := Lib.hid hd
   clear hd
   go_wp2_with fail
   refine wp_region_quiet_tail 8 (by kernel_rfl) (by kernel_rfl) ?_
   simp only [List.take_succ_cons, List.take_zero, List.drop_succ_cons, List.drop_zero]
   iterate 8 go_big_quiet_step (fail)
   refine wpQuiet_nil ?_
   rintro _ ⟨nt, rfl⟩
   go_wp2_with fail
   refine (on_ok g (a + i : Nat) 1 l.length _ _ (htk' _) (by omega) (by omega) (by omega) (by omega) (by omega) (by omega)).mono ?_
   rintro e w1 ⟨rfl, htk1, hg1⟩
   have hgg := grown_then hg (grown_of_drewN hg1) (.inl rfl)
   obtain ⟨q0, q1, q2, q3, q4⟩ := tk_cells htk1
   have hc1 : w1.cell? (ad.add (a + i)) = some (.int .u8 (x.toNat : Int)) := by
    refine (World.cell?_of_block (w := w) ?_).trans hcell
    rw [block_of_add]
    exact hgg.block ad.block (by have := h.lt; omega) (by simp; omega)
   have h0k0 := Lib.hid h0
   clear h0 h1 h2 f0 f1 htk htk' hg hg1 hcell
   go_wp2_with fail
   go_quiet (fail)
   go_wp2_with fail
   have htk2 : Tk (w1.drewN nq) g (a + i + 1 : Nat) 0 (.slice (some ad) l.length c) := htk1
   have hgg2 : w.grownBy (w1.drewN nq) (some g) := grown_drewN hgg nq
   clear htk1 hgg q0 q1 q2 q3 q4 hc1
   generalize w1.drewN nq = w2 at htk2 hgg2 ⊢
   obtain ⟨q0, q1, q2, q3, q4⟩ := tk_cells htk2
   have h0k := h0k0
   have hw1 : IntKind.i64.wrap ((a : Int) + 1) = a + 1 := IntWalk.i64_in _ (by omega)
   rcases Nat.eq_zero_or_pos i with hi0 | hi0
   ·have g1 : ((a : Int) + i + 1 == a + 1) = true := by simp; omega
    have HI := Lib.hid hi0
    by_cases hx8 : x.toNat = 128
    ·have g3 : ((x.toNat : Int) == 128) = true := by simp; omega
     have HB := Lib.hid (bad_x m k hi0 hx8)
     clear hi0 hx8
     refine wp_region_quiet_tail 33 (by kernel_rfl) (by kernel_rfl) ?_
     simp only [List.take_succ_cons, List.take_zero, List.drop_succ_cons, List.drop_zero]
     iterate 33 go_big_quiet_step (fail)
     refine wpQuiet_nil ?_
     rintro _ ⟨nt, rfl⟩
     go_wp2_with fail
     refine (wrong_yes g (a + i + 1 : Nat) 4 _ _ (htk2.drewN nt) (by omega)).mono ?_
     rintro e w3 ⟨rfl, htk3, hg3⟩
     go_wp2
     go_ret
     exact bad_end hh hdrop HB.out htk3 (grown_then hgg2 (grown_of_drewN hg3) (.inl rfl))
    ·have g3 : ((x.toNat : Int) == 128) = false := by simp; omega
     have HX := Lib.hid hx8
     clear hi0 hx8
     rcases Nat.lt_trichotomy (m / 128) k with hk1 | hk1 | hk1
     ·have e1 : ¬ ((k : Int) ≤ (m : Int) / 128) := by omega
      have e2 : (m : Int) / 128 < k := by omega
      have HB := Lib.hid (bad_k i x hk1)
      refine wp_region_quiet_tail 33 (by kernel_rfl) (by kernel_rfl) ?_
      simp only [List.take_succ_cons, List.take_zero, List.drop_succ_cons, List.drop_zero]
      iterate 33 go_big_quiet_step (fail)
      refine wpQuiet_nil ?_
      rintro _ ⟨nt, rfl⟩
      go_wp2_with fail
      refine (wrong_yes g (a + i + 1 : Nat) 4 _ _ (htk2.drewN nt) (by omega)).mono ?_
      rintro e w3 ⟨rfl, htk3, hg3⟩
      go_wp2
      go_ret
      exact bad_end hh hdrop HB.out htk3 (grown_then hgg2 (grown_of_drewN hg3) (.inl rfl))
     ·rcases Nat.lt_or_ge (m % 128) d with hd1 | hd1
      ·have e1 : ¬ ((d : Int) ≤ (m : Int) % 128) := by omega
       have e2 : (m : Int) % 128 < d := by omega
       have HB := Lib.hid (bad_d i hk1 (by rw [← HD.out]; exact hd1))
       subst hk1
       refine wp_region_quiet_tail 33 (by kernel_rfl) (by kernel_rfl) ?_
       simp only [List.take_succ_cons, List.take_zero, List.drop_succ_cons, List.drop_zero]
       iterate 33 go_big_quiet_step (fail)
       refine wpQuiet_nil ?_
       rintro _ ⟨nt, rfl⟩
       go_wp2_with fail
       refine (wrong_yes g (a + i + 1 : Nat) 4 _ _ (htk2.drewN nt) (by omega)).mono ?_
       rintro e w3 ⟨rfl, htk3, hg3⟩
       go_wp2
       go_ret
       exact bad_end hh hdrop HB.out htk3 (grown_then hgg2 (grown_of_drewN hg3) (.inl rfl))
      ·have e1 : (d : Int) ≤ (m : Int) % 128 := by omega
       have e2 : ¬ (m : Int) % 128 < d := by omega
       have HB := Lib.hid (bad_no (m := m) (i := i) (k := k) (x := x) (by have := HI.out; have := HX.out; omega) (by omega) (by intro _; rw [← HD.out]; exact hd1))
       subst hk1
       refine wp_region_quiet_tail 33 (by kernel_rfl) (by kernel_rfl) ?_
       simp only [List.take_succ_cons, List.take_zero, List.drop_succ_cons, List.drop_zero]
       iterate 33 go_big_quiet_step (fail)
       refine wpQuiet_nil ?_
       rintro _ ⟨nt, rfl⟩
       go_wp2_with fail
       refine (wrong_no g (a + i + 1 : Nat) 4 _ _ (htk2.drewN nt)).mono ?_
       rintro e w3 ⟨rfl, rfl⟩
       have HOR := Lib.hid (or_join (m / 128) d (by have := Hm.out; omega) hd7)
       have htk3 : Tk (w2.drewN nt) g (a + i + 1 : Nat) 0 (.slice (some ad) l.length c) := htk2.drewN nt
       have hgg3 := grown_drewN hgg2 nt
       have hkk : m / 128 ≤ 144115188075855871 := by have := Hm.out; omega
       by_cases hx128 : x.toNat < 128
       ·go_wp2
        go_ret
        exact good_end hh hdrop HB.out hx128 HD.out HOR.out htk3 hgg3
       ·go_wp2
        go_roundw
        case rel => exact good_round hh hdrop HB.out hx128 HD.out HOR.out htk3 hgg3 hlt
        case measure => exact good_measure (htk3.cell 0) h0k hlt
     ·have e1 : ((k : Int) ≤ (m : Int) / 128) := by omega
      have e2 : ¬ (m : Int) / 128 < k := by omega
      have e3 : ¬ ((k : Int) = (m : Int) / 128) := by omega
      have e4 : ((k : Int) == (m : Int) / 128) = false := by simp; omega
      have HB := Lib.hid (bad_no (m := m) (i := i) (k := k) (x := x) (by have := HI.out; have := HX.out; omega) (by omega) (by omega))
      refine wp_region_quiet_tail 33 (by kernel_rfl) (by kernel_rfl) ?_
      simp only [List.take_succ_cons, List.take_zero, List.drop_succ_cons, List.drop_zero]
      iterate 33 go_big_quiet_step (fail)
      refine wpQuiet_nil ?_
      rintro _ ⟨nt, rfl⟩
      go_wp2_with fail
      refine (wrong_no g (a + i + 1 : Nat) 4 _ _ (htk2.drewN nt)).mono ?_
      rintro e w3 ⟨rfl, rfl⟩
      have HOR := Lib.hid (or_join k d (by have := Hm.out; omega) hd7)
      have htk3 : Tk (w2.drewN nt) g (a + i + 1 : Nat) 0 (.slice (some ad) l.length c) := htk2.drewN nt
      have hgg3 := grown_drewN hgg2 nt
      have hkk : k ≤ 144115188075855871 := by have := Hm.out; omega
      by_cases hx128 : x.toNat < 128
      ·go_wp2
       go_ret
       exact good_end hh hdrop HB.out hx128 HD.out HOR.out htk3 hgg3
      ·go_wp2
       go_roundw
       case rel => exact good_round hh hdrop HB.out hx128 HD.out HOR.out htk3 hgg3 hlt
       case measure => exact good_measure (htk3.cell 0) h0k hlt
   ·have g1 : ((a : Int) + i + 1 == a + 1) = false := by simp; omega
    have HI := Lib.hid hi0
    have HX := HI
    rcases Nat.lt_trichotomy (m / 128) k with hk1 | hk1 | hk1
    ·have e1 : ¬ ((k : Int) ≤ (m : Int) / 128) := by omega
     have e2 : (m : Int) / 128 < k := by omega
     have HB := Lib.hid (bad_k i x hk1)
     refine wp_region_quiet_tail 33 (by kernel_rfl) (by kernel_rfl) ?_
     simp only [List.take_succ_cons, List.take_zero, List.drop_succ_cons, List.drop_zero]
     iterate 33 go_big_quiet_step (fail)
     refine wpQuiet_nil ?_
     rintro _ ⟨nt, rfl⟩
     go_wp2_with fail
     refine (wrong_yes g (a + i + 1 : Nat) 4 _ _ (htk2.drewN nt) (by omega)).mono ?_
     rintro e w3 ⟨rfl, htk3, hg3⟩
     go_wp2
     go_ret
     exact bad_end hh hdrop HB.out htk3 (grown_then hgg2 (grown_of_drewN hg3) (.inl rfl))
    ·rcases Nat.lt_or_ge (m % 128) d with hd1 | hd1
     ·have e1 : ¬ ((d : Int) ≤ (m : Int) % 128) := by omega
      have e2 : (m : Int) % 128 < d := by omega
      have HB := Lib.hid (bad_d i hk1 (by rw [← HD.out]; exact hd1))
      subst hk1
      refine wp_region_quiet_tail 33 (by kernel_rfl) (by kernel_rfl) ?_
      simp only [List.take_succ_cons, List.take_zero, List.drop_succ_cons, List.drop_zero]
      iterate 33 go_big_quiet_step (fail)
      refine wpQuiet_nil ?_
      rintro _ ⟨nt, rfl⟩
      go_wp2_with fail
      refine (wrong_yes g (a + i + 1 : Nat) 4 _ _ (htk2.drewN nt) (by omega)).mono ?_
      rintro e w3 ⟨rfl, htk3, hg3⟩
      go_wp2
      go_ret
      exact bad_end hh hdrop HB.out htk3 (grown_then hgg2 (grown_of_drewN hg3) (.inl rfl))
     ·have e1 : (d : Int) ≤ (m : Int) % 128 := by omega
      have e2 : ¬ (m : Int) % 128 < d := by omega
      have HB := Lib.hid (bad_no (m := m) (i := i) (k := k) (x := x) (by have := HI.out; have := HX.out; omega) (by omega) (by intro _; rw [← HD.out]; exact hd1))
      subst hk1
      refine wp_region_quiet_tail 33 (by kernel_rfl) (by kernel_rfl) ?_
      simp only [List.take_succ_cons, List.take_zero, List.drop_succ_cons, List.drop_zero]
      iterate 33 go_big_quiet_step (fail)
      refine wpQuiet_nil ?_
      rintro _ ⟨nt, rfl⟩
      go_wp2_with fail
      refine (wrong_no g (a + i + 1 : Nat) 4 _ _ (htk2.drewN nt)).mono ?_
      rintro e w3 ⟨rfl, rfl⟩
      have HOR := Lib.hid (or_join (m / 128) d (by have := Hm.out; omega) hd7)
      have htk3 : Tk (w2.drewN nt) g (a + i + 1 : Nat) 0 (.slice (some ad) l.length c) := htk2.drewN nt
      have hgg3 := grown_drewN hgg2 nt
      have hkk : m / 128 ≤ 144115188075855871 := by have := Hm.out; omega
      by_cases hx128 : x.toNat < 128
      ·go_wp2
       go_ret
       exact good_end hh hdrop HB.out hx128 HD.out HOR.out htk3 hgg3
      ·go_wp2
       go_roundw
       case rel => exact good_round hh hdrop HB.out hx128 HD.out HOR.out htk3 hgg3 hlt
       case measure => exact good_measure (htk3.cell 0) h0k hlt
    ·have e1 : ((k : Int) ≤ (m : Int) / 128) := by omega
     have e2 : ¬ (m : Int) / 128 < k := by omega
     have e3 : ¬ ((k : Int) = (m : Int) / 128) := by omega
     have e4 : ((k : Int) == (m : Int) / 128) = false := by simp; omega
     have HB := Lib.hid (bad_no (m := m) (i := i) (k := k) (x := x) (by have := HI.out; have := HX.out; omega) (by omega) (by omega))
     refine wp_region_quiet_tail 33 (by kernel_rfl) (by kernel_rfl) ?_
     simp only [List.take_succ_cons, List.take_zero, List.drop_succ_cons, List.drop_zero]
     iterate 33 go_big_quiet_step (fail)
     refine wpQuiet_nil ?_
     rintro _ ⟨nt, rfl⟩
     go_wp2_with fail
     refine (wrong_no g (a + i + 1 : Nat) 4 _ _ (htk2.drewN nt)).mono ?_
     rintro e w3 ⟨rfl, rfl⟩
     have HOR := Lib.hid (or_join k d (by have := Hm.out; omega) hd7)
     have htk3 : Tk (w2.drewN nt) g (a + i + 1 : Nat) 0 (.slice (some ad) l.length c) := htk2.drewN nt
     have hgg3 := grown_drewN hgg2 nt
     have hkk : k ≤ 144115188075855871 := by have := Hm.out; omega
     by_cases hx128 : x.toNat < 128
     ·go_wp2
      go_ret
      exact good_end hh hdrop HB.out hx128 HD.out HOR.out htk3 hgg3
     ·go_wp2
      go_roundw
      case rel => exact good_round hh hdrop HB.out hx128 HD.out HOR.out htk3 hgg3 hlt
      case measure => exact good_measure (htk3.cell 0) h0k hlt
  ·have hge : l.length ≤ a + i := by omega
   have htk' : ∀ n, Tk (wr.drewN n) g (a + i : Nat) 0 (.slice A l.length c) := fun _ => htk
   go_wp2_with fail
   refine wp_region_quiet_tail 8 (by kernel_rfl) (by kernel_rfl) ?_
   simp only [List.take_succ_cons, List.take_zero, List.drop_succ_cons, List.drop_zero]
   iterate 8 go_big_quiet_step (fail)
   refine wpQuiet_nil ?_
   rintro _ ⟨nt, rfl⟩
   go_wp2_with fail
   refine (on_end g (a + i : Nat) 1 l.length _ _ (htk' _) (by omega) (by omega) (by omega)).mono ?_
   rintro e w1 ⟨rfl, htk1, hg1⟩
   go_wp2
   go_ret
   have hd : l.drop (a + i) = [] := List.drop_eq_nil_of_le hge
   rw [hh.out, hd]
   exact ⟨rfl, htk1, grown_then hg (grown_of_drewN hg1) (.inl rfl)⟩
end Go.Proofs.YtgeofijddhflaaaGreatDoor
