/- The reference of layer 2: Sum. Condition: the bytes can be read. -/
import Derived.Test.YtelplpajpfkfiaaSum
set_option linter.unusedVariables false
namespace Go.Proofs.Ytelplpajpfkfiaa
open Go.RowKit Oct

theorem cs_hi {s : Nat} (h : s < 4294967296) (h2 : 2147483648 ≤ s) : bits .xor .u32 ((s : Int) * 2 % 4294967296) 79764919 = (Crc.cs s : Nat) := by
  unfold Crc.cs
  rw [Crc.top h, show (s : Int) * 2 % 4294967296 = ((s * 2 % 4294967296 : Nat) : Int) by omega, show (79764919 : Int) = ((79764919 : Nat) : Int) from rfl, u32_xor_nat _ _ (by omega) (by omega)]
  simp [h2]
theorem cs_lo {s : Nat} (h : s < 4294967296) (h2 : ¬ 2147483648 ≤ s) : (s : Int) * 2 = (Crc.cs s : Nat) := by
  unfold Crc.cs
  rw [Crc.top h]
  simp [h2]
  omega

set_option maxHeartbeats 1000000 in
set_option maxRecDepth 100000 in
theorem rsum_any (A : Option Addr) (l : List UInt8) (n c B : Nat) (hn : n = l.length) (w : World) (hr : Rd w B A (cells l)) (hl : l.length ≤ 4611686018427387904) :
    Calls Try.prog 23 #[.slice A n c] w fun e w' => e = .returned (.int .i64 (Crc.sum l : Nat)) ∧ w = w' := by
  subst hn
  go_enter Try.func23, Try.ntmps23
  go_wp2_with fail
  go_loop [4, 3, 5, 6] (fun i s _ _ => ∃ k : Nat, k ≤ l.length ∧ i = .int .i64 k ∧ s = .int .u32 (Crc.reg 4294967295 (l.take k) : Nat)) (fun i _ _ _ => l.length - (intOf i).toNat)
  case atStart => exact ⟨0, by omega, rfl, rfl⟩
  case round =>
    obtain ⟨k, hk, rfl, rfl⟩ := hrel
    by_cases hlt : k < l.length
    · obtain ⟨ad, rfl, hbk, hcell⟩ := rd_at hr hlt
      have hkI : (k : Int) < l.length := by omega
      have HS := Lib.hid (reg_take 4294967295 l k hlt)
      have hslt := Crc.reg_lt (l.take k) (s := 4294967295) (by omega)
      generalize Crc.reg 4294967295 (l.take k) = s at HS hslt ⊢
      have hblt := l[k].toNat_lt
      have hx : bits .xor .u32 (s : Int) ((l[k].toNat : Int) * 16777216) = ((s ^^^ l[k].toNat * 16777216 : Nat) : Int) := by
        rw [show (l[k].toNat : Int) * 16777216 = ((l[k].toNat * 16777216 : Nat) : Int) by omega, u32_xor_nat _ _ hslt (by omega)]
      have hxlt : (s ^^^ l[k].toNat * 16777216) < 4294967296 := Nat.xor_lt_two_pow (n := 32) hslt (by omega)
      have HB : Hid (Crc.byte s l[k].toNat = Crc.csn 8 (s ^^^ l[k].toNat * 16777216)) := Lib.hid rfl
      generalize s ^^^ l[k].toNat * 16777216 = X at hx hxlt HB
      go_wp2_with fail
      go_loop [5, 3, 6] (fun i s _ => ∃ q : Nat, q ≤ 8 ∧ i = .int .i64 q ∧ s = .int .u32 (Crc.csn q X : Nat)) (fun i _ _ => 8 - (intOf i).toNat)
      case atStart => exact ⟨0, by omega, rfl, rfl⟩
      case round =>
        obtain ⟨q, hq, rfl, rfl⟩ := hrel
        by_cases hql : q < 8
        · have hslt2 : Crc.csn q X < 4294967296 := Crc.csn_lt hxlt
          have HC : Hid (Crc.csn (q + 1) X = Crc.cs (Crc.csn q X)) := Lib.hid rfl
          generalize Crc.csn q X = t at hslt2 HC ⊢
          by_cases ht : 2147483648 ≤ t
          · have h1 := cs_hi hslt2 ht
            have h2 : ((t : Int) / 2147483648 == 1) = true := by simp; omega
            go_wp2
            exact ⟨⟨q + 1, by omega, by go_num, by rw [HC.out]⟩, by simp [intOf]; omega⟩
          · have h1 := cs_lo hslt2 ht
            have h2 : ((t : Int) / 2147483648 == 1) = false := by simp; omega
            go_wp2
            exact ⟨⟨q + 1, by omega, by go_num, by rw [HC.out]⟩, by simp [intOf]; omega⟩
        · obtain rfl : q = 8 := by omega
          go_wp2
          exact ⟨⟨k + 1, by omega, by go_num, by rw [HS.out, HB.out]⟩, by simp [intOf]; omega⟩
    · obtain rfl : k = l.length := by omega
      have hlt2 := Crc.reg_lt l (s := 4294967295) (by omega)
      have hfin : (4294967295 : Int) - (Crc.reg 4294967295 l : Nat) = (Crc.sum l : Nat) := by unfold Crc.sum; omega
      go_wp2
      go_ret
      exact ⟨rfl, rfl⟩
end Go.Proofs.Ytelplpajpfkfiaa
