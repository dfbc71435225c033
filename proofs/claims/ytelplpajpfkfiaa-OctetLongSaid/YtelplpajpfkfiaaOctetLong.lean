/- A greater count has no fewer bytes: the walk of the statement. No condition. -/
import Derived.Test.YtelplpajpfkfiaaUint
import Derived.Test.YtelplpajpfkfiaaConv
namespace Go.Proofs.Ytelplpajpfkfiaa
open Go.RowKit Oct

theorem both_ne {n m : Nat} (h : n ≠ m) : (((n : Int) == (m : Int)) == ((str (enc n)).toList == (str (enc m)).toList)) = true := by
  have h1 : ((n : Int) == (m : Int)) = false := by simp; omega
  have h2 : ((str (enc n)).toList == (str (enc m)).toList) = false := by
    rw [str_toList, str_toList]
    simp
    exact fun e => h (enc_inj e)
  rw [h1, h2]
  rfl

set_option maxRecDepth 100000 in
theorem octetLong_walk (w : World) (a : Int) (ha : -9223372036854775808 ≤ a ∧ a ≤ 9223372036854775807) (b : Int) (hb : -9223372036854775808 ≤ b ∧ b ≤ 9223372036854775807) :
    Calls Try.prog 3 #[.int .i64 a, .int .i64 b] w fun e w' => e = .returned (.bool true) ∧ Below w.heap.size w w' := by
  rcases Int.lt_or_le a 0 with h1 | h1 <;> rcases Int.lt_or_le b 0 with h2 | h2
  · go_enter Try.func3, Try.ntmps3
    go_wp2_with fail
    refine (uint_neg a _ h1).mono ?_
    rintro e w1 ⟨rfl, rfl⟩
    go_wp2_with fail
    refine (uint_neg b _ h2).mono ?_
    rintro e w1 ⟨rfl, rfl⟩
    go_wp2
    go_ret
    exact ⟨rfl, Below.refl _ _⟩
  · obtain ⟨m, rfl⟩ := Int.eq_ofNat_of_zero_le h2
    go_enter Try.func3, Try.ntmps3
    go_wp2_with fail
    refine (uint_neg a _ h1).mono ?_
    rintro e w1 ⟨rfl, rfl⟩
    go_wp2_with fail
    refine (uint_pos m _ (by omega)).mono ?_
    rintro e w1 ⟨v, rfl, hown, hbel⟩
    go_wp2
    go_ret
    exact ⟨rfl, hbel⟩
  · obtain ⟨m, rfl⟩ := Int.eq_ofNat_of_zero_le h1
    go_enter Try.func3, Try.ntmps3
    go_wp2_with fail
    refine (uint_pos m _ (by omega)).mono ?_
    rintro e w1 ⟨v, rfl, hown, hbel⟩
    go_wp2_with fail
    refine (uint_neg b _ h2).mono ?_
    rintro e w1 ⟨rfl, rfl⟩
    go_wp2
    go_ret
    exact ⟨rfl, hbel⟩
  · obtain ⟨n, rfl⟩ := Int.eq_ofNat_of_zero_le h1
    obtain ⟨m, rfl⟩ := Int.eq_ofNat_of_zero_le h2
    go_enter Try.func3, Try.ntmps3
    go_wp2_with fail
    refine (uint_pos n _ (by omega)).mono ?_
    rintro e w1 ⟨v1, rfl, hown1, hbel1⟩
    go_wp2_with fail
    refine (uint_pos m _ (by omega)).mono ?_
    rintro e w2 ⟨v2, rfl, hown2, hbel2⟩
    obtain ⟨A1, c1, rfl, hc1, _, hr1⟩ := bs_shape (hown1.below hbel2 (Nat.le_refl _))
    obtain ⟨A2, c2, rfl, hc2, _, hr2⟩ := bs_shape hown2
    have k1 := str_of c1 hr1
    have k2 := str_of c2 hr2
    have p1 := enc_pos n
    have p2 := enc_pos m
    have hbel := hbel1.trans (hbel2.mono hbel1.size)
    clear ha hb hr1 hr2 hown1 hown2 hbel1 hbel2
    rcases Nat.lt_trichotomy n m with h | h | h
    · have hle := enc_mono (Nat.le_of_lt h)
      have hne : (n : Int) ≠ m := by omega
      go_wp2
      go_ret
      exact ⟨ret_bool (both_ne (by omega)), hbel⟩
    · subst h
      go_wp2
      go_ret
      exact ⟨rfl, hbel⟩
    · have hle := enc_mono (Nat.le_of_lt h)
      go_wp2
      go_ret
      exact ⟨ret_bool (both_ne (by omega)), hbel⟩
end Go.Proofs.Ytelplpajpfkfiaa
