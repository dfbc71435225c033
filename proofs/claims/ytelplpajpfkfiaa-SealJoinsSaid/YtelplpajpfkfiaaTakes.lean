/- octet's TakeUint, number, TakeInt, length. Condition: the bytes are read below the heap's end, at most 2^47. -/
import Derived.Test.YtelplpajpfkfiaaCount
set_option linter.unusedVariables false
namespace Go.Proofs.Ytelplpajpfkfiaa
open Go.RowKit Oct

theorem maxI_eq : (9223372036854775807 : Int) = (maxI : Int) := rfl
theorem maxU_eq : (18446744073709551615 : Int) = (maxU : Int) := rfl
theorem maxI_lt : maxI < 2 ^ 64 := by decide
theorem maxU_lt : maxU < 2 ^ 64 := by decide

theorem count_at (g a m : Nat) (M : Int) (hM : M = (m : Int)) (A : Option Addr) (l : List UInt8) (c : Nat) (w : World) (h : Tk w g a 0 (.slice A l.length c)) (hm : m < 2 ^ 64) (ha : a ≤ l.length) (hl : l.length ≤ 4611686018427387904)
    (hr : Rd w g A (cells l)) :
    Calls Try.prog 68 #[.pointer (some ⟨g, 0, none⟩), .int .u64 M] w fun e' w' => e' = .returned (.int .u64 (cnt m (l.drop a)).1) ∧
      Tk w' g (a + (cnt m (l.drop a)).2.1 : Nat) (cnt m (l.drop a)).2.2 (.slice A l.length c) ∧ w.grownBy w' (some g) := by
  subst hM
  exact count_any g a m A l c w h hm ha hl hr

/-- A taker in a new block. -/
theorem tk_new (w : World) (s : Value) : Tk (w.alloc (.cells #[.int .i64 0, .int .i64 0, s] 94)) w.heap.size 0 0 s := Blk.new _ _ _
theorem below_box {w w1 : World} {o : Obj} (h : (w.alloc o).grownBy w1 (some w.heap.size)) : Below w.heap.size w w1 :=
  ((Below.refl _ w).alloc (Nat.le_refl _) o).trans ⟨h.os, h.tape, h.output, h.size, fun k hk => h.block k (by simp; omega) (by simp; omega)⟩

theorem usedOf_cast (a : Nat) (e : Int) : usedOf (a : Int) e = ((if e = 0 then a else 0 : Nat) : Int) := by
  unfold usedOf
  split <;> rfl

set_option maxRecDepth 100000 in
theorem takeUint_any (A : Option Addr) (l : List UInt8) (c : Nat) (w : World) (hr : Rd w w.heap.size A (cells l)) (hl : l.length ≤ 4611686018427387904) :
    Calls Try.prog 24 #[.slice A l.length c] w fun e w' => e = .returned (.tuple #[.int .i64 (takeU maxI l).1, .int .i64 (takeU maxI l).2.1, .int .i64 (takeU maxI l).2.2]) ∧ Below w.heap.size w w' := by
  go_enter Try.func24, Try.ntmps24
  go_wp2_with fail
  refine (count_at w.heap.size 0 maxI _ maxI_eq A l c _ (tk_new _ _) maxI_lt (by omega) hl (hr.alloc (Nat.le_refl _) _)).mono ?_
  rintro e w1 ⟨rfl, htk, hg⟩
  have hb := below_box hg
  rw [List.drop_zero, Nat.zero_add] at htk
  rw [List.drop_zero]
  have hle : (cnt maxI l).1 ≤ 9223372036854775807 := cnt_le maxI l
  obtain ⟨h0, h1, h2, f0, f1⟩ := tk_cells htk
  clear hg
  go_wp2_with fail
  go_quiet ((go_at_call 69; exact Calls.quiet_of_same (used_any _ _ _ _ _ (htk.drewN _))))
  go_wp2
  go_ret3
  exact ⟨ret3 rfl (congrArg (Value.int .i64) (usedOf_cast _ _)) rfl, below_drewN hb _⟩

theorem number_fold (u : Nat) (hu : u ≤ maxU) : bits .xor .i64 (wrap64 ((u : Int) / 2)) (wrap64 (-wrap64 (bits .and .u64 (u : Int) 1))) = unfold1 u := by
  have hu' : u ≤ 18446744073709551615 := hu
  have h1 : bits .and .u64 (u : Int) 1 = ((u % 2 : Nat) : Int) := by
    have := u64_and_nat u 1 (by omega) (by omega)
    rw [show ((1 : Nat) : Int) = 1 from rfl] at this
    rw [this, Nat.and_one_is_mod]
  have h2 : wrap64 ((u : Int) / 2) = ((u / 2 : Nat) : Int) := by
    rw [IntWalk.wrap64_in _ ⟨by omega, by omega⟩]
    omega
  rw [h1, h2]
  have hb : (BitVec.ofInt 64 ((u / 2 : Nat) : Int)).toNat = u / 2 := by
    rw [BitVec.ofInt_natCast, BitVec.toNat_ofNat]
    exact Nat.mod_eq_of_lt (by omega)
  rcases Nat.mod_two_eq_zero_or_one u with h | h
  · rw [h]
    have h3 : wrap64 (-wrap64 ((0 : Nat) : Int)) = 0 := by unfold wrap64; decide
    rw [h3]
    show IntKind.i64.wrap ((BitVec.ofInt 64 ((u / 2 : Nat) : Int) ^^^ BitVec.ofInt 64 0).toNat : Int) = _
    have h4 : BitVec.ofInt 64 ((u / 2 : Nat) : Int) ^^^ BitVec.ofInt 64 0 = BitVec.ofInt 64 ((u / 2 : Nat) : Int) := by
      rw [show BitVec.ofInt 64 0 = 0#64 from rfl, BitVec.xor_zero]
    rw [h4, hb, IntKind.wrap_i64, unfold1, if_pos h]
    omega
  · rw [h]
    have h3 : wrap64 (-wrap64 ((1 : Nat) : Int)) = -1 := by unfold wrap64; decide
    rw [h3]
    show IntKind.i64.wrap ((BitVec.ofInt 64 ((u / 2 : Nat) : Int) ^^^ BitVec.ofInt 64 (-1)).toNat : Int) = _
    have h4 : BitVec.ofInt 64 ((u / 2 : Nat) : Int) ^^^ BitVec.ofInt 64 (-1) = ~~~ (BitVec.ofInt 64 ((u / 2 : Nat) : Int)) := by
      rw [show BitVec.ofInt 64 (-1) = BitVec.allOnes 64 from rfl, BitVec.xor_allOnes]
    rw [h4, BitVec.toNat_not, hb, IntKind.wrap_i64, unfold1, if_neg (by omega)]
    omega

set_option maxRecDepth 100000 in
theorem number_any (g a : Nat) (A : Option Addr) (l : List UInt8) (c : Nat) (w : World) (h : Tk w g a 0 (.slice A l.length c)) (ha : a ≤ l.length) (hl : l.length ≤ 4611686018427387904) (hr : Rd w g A (cells l)) :
    Calls Try.prog 73 #[.pointer (some ⟨g, 0, none⟩)] w fun e' w' => e' = .returned (.int .i64 (unfold1 (cnt maxU (l.drop a)).1)) ∧
      Tk w' g (a + (cnt maxU (l.drop a)).2.1 : Nat) (cnt maxU (l.drop a)).2.2 (.slice A l.length c) ∧ w.grownBy w' (some g) := by
  go_enter Try.func73, Try.ntmps73
  go_wp2_with fail
  refine (count_at g a maxU _ maxU_eq A l c _ h maxU_lt ha hl hr).mono ?_
  rintro e w1 ⟨rfl, htk, hg⟩
  have hle := Lib.hid (cnt_le maxU (l.drop a))
  go_wp2
  go_ret
  exact ⟨ret_int (number_fold _ hle.out), htk, hg⟩

set_option maxRecDepth 100000 in
theorem takeInt_any (A : Option Addr) (l : List UInt8) (c : Nat) (w : World) (hr : Rd w w.heap.size A (cells l)) (hl : l.length ≤ 4611686018427387904) :
    Calls Try.prog 29 #[.slice A l.length c] w fun e w' => e = .returned (.tuple #[.int .i64 (unfold1 (takeU maxU l).1), .int .i64 (takeU maxU l).2.1, .int .i64 (takeU maxU l).2.2]) ∧ Below w.heap.size w w' := by
  go_enter Try.func29, Try.ntmps29
  go_wp2_with fail
  refine (number_any w.heap.size 0 A l c _ (tk_new _ _) (by omega) hl (hr.alloc (Nat.le_refl _) _)).mono ?_
  rintro e w1 ⟨rfl, htk, hg⟩
  have hb := below_box hg
  rw [List.drop_zero, Nat.zero_add] at htk
  rw [List.drop_zero]
  obtain ⟨h0, h1, h2, f0, f1⟩ := tk_cells htk
  clear hg
  go_wp2_with fail
  go_quiet ((go_at_call 69; exact Calls.quiet_of_same (used_any _ _ _ _ _ (htk.drewN _))))
  go_wp2
  go_ret3
  exact ⟨ret3 rfl (congrArg (Value.int .i64) (usedOf_cast _ _)) rfl, below_drewN hb _⟩

/-- length: how many there are, at most m: the count; 2: more than that. -/
def lenOf (m : Nat) (l : List UInt8) : Nat × Int := if (cnt maxI l).2.2 = 0 then (if m < (cnt maxI l).1 then (0, 2) else ((cnt maxI l).1, 0)) else (0, (cnt maxI l).2.2)
theorem lenOf_err (m : Nat) (l : List UInt8) (h : (cnt maxI l).2.2 ≠ 0) : lenOf m l = (0, (cnt maxI l).2.2) := if_neg h
theorem lenOf_long (m : Nat) (l : List UInt8) (h : (cnt maxI l).2.2 = 0) (h2 : m < (cnt maxI l).1) : lenOf m l = (0, 2) := by unfold lenOf; rw [if_pos h, if_pos h2]
theorem lenOf_ok (m : Nat) (l : List UInt8) (h : (cnt maxI l).2.2 = 0) (h2 : ¬ m < (cnt maxI l).1) : lenOf m l = ((cnt maxI l).1, 0) := by unfold lenOf; rw [if_pos h, if_neg h2]

set_option maxRecDepth 100000 in
theorem length_any (g m : Nat) (A : Option Addr) (l : List UInt8) (c : Nat) (w : World) (h : Tk w g 0 0 (.slice A l.length c)) (hl : l.length ≤ 4611686018427387904) (hr : Rd w g A (cells l)) (hm : m ≤ 65536) :
    Calls Try.prog 74 #[.pointer (some ⟨g, 0, none⟩), .int .i64 m] w fun e' w' => e' = .returned (.int .i64 (lenOf m l).1) ∧
      Tk w' g ((cnt maxI l).2.1 : Nat) (lenOf m l).2 (.slice A l.length c) ∧ w.grownBy w' (some g) := by
  have hle : (cnt maxI l).1 ≤ 9223372036854775807 := cnt_le maxI l
  by_cases he : (cnt maxI l).2.2 = 0
  · by_cases hlt : m < (cnt maxI l).1
    · rw [lenOf_long m l he hlt]
      go_enter Try.func74, Try.ntmps74
      go_wp2_with fail
      refine (count_at g 0 maxI _ maxI_eq A l c _ h maxI_lt (by omega) hl hr).mono ?_
      rintro e w1 ⟨rfl, htk, hg⟩
      rw [List.drop_zero, he, Nat.zero_add] at htk
      rw [List.drop_zero]
      have HE := Lib.hid he
      clear he
      go_wp2_with fail
      refine (wrong_yes g _ 2 _ _ htk (by omega)).mono ?_
      rintro e w2 ⟨rfl, htk2, hg2⟩
      go_wp2
      go_ret
      exact ⟨rfl, htk2, grown_then hg hg2 (.inl rfl)⟩
    · rw [lenOf_ok m l he hlt]
      go_enter Try.func74, Try.ntmps74
      go_wp2_with fail
      refine (count_at g 0 maxI _ maxI_eq A l c _ h maxI_lt (by omega) hl hr).mono ?_
      rintro e w1 ⟨rfl, htk, hg⟩
      rw [List.drop_zero, he, Nat.zero_add] at htk
      rw [List.drop_zero]
      have HE := Lib.hid he
      clear he
      have hnd : decide (m < (cnt maxI l).1) = false := by simpa using hlt
      go_wp2_with fail
      refine (wrong_no g _ 2 _ _ htk).mono ?_
      rintro e w2 ⟨rfl, rfl⟩
      go_wp2
      go_ret
      exact ⟨rfl, htk, hg⟩
  · rw [lenOf_err m l he]
    go_enter Try.func74, Try.ntmps74
    go_wp2_with fail
    refine (count_at g 0 maxI _ maxI_eq A l c _ h maxI_lt (by omega) hl hr).mono ?_
    rintro e w1 ⟨rfl, htk, hg⟩
    rw [List.drop_zero, Nat.zero_add] at htk
    rw [List.drop_zero]
    have HE := Lib.hid he
    clear he
    go_wp2_with fail
    refine (wrong_err g _ _ 2 _ _ _ htk HE.out).mono ?_
    rintro e w2 ⟨rfl, rfl⟩
    go_wp2
    go_ret
    exact ⟨rfl, htk, hg⟩
end Go.Proofs.Ytelplpajpfkfiaa
