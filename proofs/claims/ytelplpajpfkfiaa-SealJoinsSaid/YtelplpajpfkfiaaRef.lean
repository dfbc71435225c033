/- The reference of layer 1: digits, count, Uint, Int, Text, Ints: the same bytes. Condition: ints fit their kind. -/
import Derived.Test.YtelplpajpfkfiaaMakes
import Derived.Test.YtelplpajpfkfiaaTakes3
set_option linter.unusedVariables false
namespace Go.Proofs.Ytelplpajpfkfiaa
open Go.RowKit Oct

theorem dig7_int (n : Nat) : (n : Int) % 128 + 128 = ((dig7 n).toNat : Int) := by
  unfold dig7
  rw [toNat_ofNat8 _ (by omega)]
  omega
theorem low7_int (n : Nat) : (n : Int) % 128 = ((low7 n).toNat : Int) := by
  unfold low7
  rw [toNat_ofNat8 _ (by omega)]
  omega

set_option maxRecDepth 100000 in
theorem digits_any (k : Nat) : ∀ (n : Nat) (w : World), n < 128 ^ k → k ≤ 10 → n < 2 ^ 64 → ∀ M : Int, M = (n : Int) →
    Calls Try.prog 87 #[.int .u64 M] w fun e w' => ∃ v, e = .returned v ∧ Bs w' w.heap.size v (digs n) ∧ Below w.heap.size w w' := by
  induction k with
  | zero =>
    intro n w hn _ _ M hM
    subst hM
    obtain rfl : n = 0 := by simpa using hn
    go_enter Try.func87, Try.ntmps87
    go_wp2_with fail
    go_ret
    rw [digs_zero]
    exact ⟨_, rfl, Own.nil _ _ _, Below.refl _ _⟩
  | succ k ih =>
    intro n w hn hk hn2 M hM
    subst hM
    by_cases h0 : n = 0
    · subst h0
      go_enter Try.func87, Try.ntmps87
      go_wp2_with fail
      go_ret
      rw [digs_zero]
      exact ⟨_, rfl, Own.nil _ _ _, Below.refl _ _⟩
    · have h1 : n / 128 < 128 ^ k := by
        apply Nat.div_lt_of_lt_mul
        rw [Nat.pow_succ] at hn
        omega
      have hlen := digs_len (n / 128) k h1
      have IH := Lib.hid (ih (n / 128) w h1 (by omega) (by omega))
      have hd := Lib.hid (digs_pos n h0)
      have h00 : ((n : Int) == 0) = false := by simp; omega
      have hq : IntKind.u64.wrap ((n : Int) / 128) = (n : Int) / 128 := IntWalk.u64_in _ (by omega)
      clear ih hn hn2 h0 h1
      go_enter Try.func87, Try.ntmps87
      go_wp2_with fail
      refine (IH.out _ (by omega)).mono ?_
      rintro e w1 ⟨v, rfl, hown, hb⟩
      have hsz := hb.size
      clear IH
      go_wp2_with (at_builtin; refine wpList_push rfl (.tmp 7) (.tmp 12) 22 rfl w.heap.size 5 (.int .u8 0) 1 Try.underlying22 info_u8 rfl _ _ _ _ (congrArg (Value.int .u8) (dig7_int n)) rfl hown rfl rfl (by rw [cells_length]; omega) (by rw [cells_length]; omega) (by omega) ?_)
      intro v' w2 hown' hg' hf'
      have hown2 : Bs w2 w.heap.size v' (digs n) := by rw [hd.out]; unfold Bs; rw [cells_append]; exact hown'
      have hb2 : Below w.heap.size w w2 := hb.grown hg' hsz (fun g hg => (hown.lt g hg).1)
      clear hown' hg' hf' hown hb
      go_wp2
      go_ret
      exact ⟨v', rfl, hown2, hb2⟩

set_option maxRecDepth 100000 in
theorem rcount_any (n : Nat) (w : World) (hn : n < 2 ^ 64) :
    Calls Try.prog 70 #[.int .u64 n] w fun e w' => ∃ v, e = .returned v ∧ Bs w' w.heap.size v (enc n) ∧ Below w.heap.size w w' := by
  have hlen := digs_len (n / 128) 9 (by omega)
  have IH := Lib.hid (digits_any 9 (n / 128) w (by omega) (by omega) (by omega))
  have hq : IntKind.u64.wrap ((n : Int) / 128) = (n : Int) / 128 := IntWalk.u64_in _ (by omega)
  clear hn
  go_enter Try.func70, Try.ntmps70
  go_wp2_with fail
  refine (IH.out _ (by omega)).mono ?_
  rintro e w1 ⟨v, rfl, hown, hb⟩
  have hsz := hb.size
  clear IH
  go_wp2_with (at_builtin; refine wpList_push rfl (.tmp 5) (.tmp 9) 22 rfl w.heap.size 5 (.int .u8 0) 1 Try.underlying22 info_u8 rfl _ _ _ _ (congrArg (Value.int .u8) (low7_int n)) rfl hown rfl rfl (by rw [cells_length]; omega) (by rw [cells_length]; omega) (by omega) ?_)
  intro v' w2 hown' hg' hf'
  have hown2 : Bs w2 w.heap.size v' (enc n) := by unfold Bs enc; rw [cells_append]; exact hown'
  have hb2 : Below w.heap.size w w2 := hb.grown hg' hsz (fun g hg => (hown.lt g hg).1)
  clear hown' hg' hf' hown hb
  go_wp2
  go_ret
  exact ⟨v', rfl, hown2, hb2⟩

theorem ruint_neg (n : Int) (w : World) (h : n < 0) :
    Calls Try.prog 25 #[.int .i64 n] w fun e w' => e = .returned (.tuple #[.slice none 0 0, .int .i64 1]) ∧ w = w' := by
  go_enter Try.func25, Try.ntmps25
  go_wp2
  go_ret2
  exact ⟨rfl, rfl⟩
theorem ruint_pos (n : Nat) (w : World) (h : n ≤ 9223372036854775807) :
    Calls Try.prog 25 #[.int .i64 n] w fun e w' => ∃ v, e = .returned (.tuple #[v, .int .i64 0]) ∧ Bs w' w.heap.size v (enc n) ∧ Below w.heap.size w w' := by
  go_enter Try.func25, Try.ntmps25
  go_wp2_with fail
  refine (rcount_any n w (by omega)).mono ?_
  rintro e w1 ⟨v, rfl, hown, hb⟩
  go_wp2
  go_ret2
  exact ⟨v, rfl, hown, hb⟩

set_option maxRecDepth 100000 in
theorem rint_any (n : Int) (h : -9223372036854775808 ≤ n ∧ n ≤ 9223372036854775807) (w : World) :
    Calls Try.prog 31 #[.int .i64 n] w fun e w' => ∃ v, e = .returned v ∧ Bs w' w.heap.size v (enc (fold1 n)) ∧ Below w.heap.size w w' := by
  have hc := fun (m : Nat) (M : Int) (hm : M = m) (hM : m < 2 ^ 64) => (show Calls Try.prog 70 #[.int .u64 M] w fun e w' => ∃ v, e = .returned v ∧ Bs w' w.heap.size v (enc m) ∧ Below w.heap.size w w' by subst hm; exact rcount_any m w hM)
  have HC := Lib.hid hc
  clear hc
  by_cases h0 : 0 ≤ n
  · obtain ⟨k, rfl⟩ := Int.eq_ofNat_of_zero_le h0
    have hk : k ≤ 9223372036854775807 := by omega
    have hf : fold1 (k : Int) = 2 * k := by unfold fold1; rw [if_pos h0]; simp
    have HF := Lib.hid hf
    clear h hf
    go_enter Try.func31, Try.ntmps31
    go_wp2_with fail
    refine (HC.out (2 * k) _ (by simp) (by omega)).mono ?_
    rintro e w1 ⟨v, rfl, hown, hb⟩
    go_wp2
    go_ret
    rw [HF.out]
    exact ⟨v, rfl, hown, hb⟩
  · obtain ⟨k, hk, hk2⟩ : ∃ k : Nat, n = -(k : Int) - 1 ∧ k ≤ 9223372036854775807 := ⟨(-(n + 1)).toNat, by omega, by omega⟩
    subst hk
    have hf : fold1 (-(k : Int) - 1) = 2 * k + 1 := by unfold fold1; rw [if_neg h0]; omega
    have HF := Lib.hid hf
    clear h hf
    go_enter Try.func31, Try.ntmps31
    go_wp2_with fail
    refine (HC.out (2 * k + 1) _ (by first | (simp; done) | (simp; omega)) (by omega)).mono ?_
    rintro e w1 ⟨v, rfl, hown, hb⟩
    go_wp2
    go_ret
    rw [HF.out]
    exact ⟨v, rfl, hown, hb⟩
end Go.Proofs.Ytelplpajpfkfiaa
