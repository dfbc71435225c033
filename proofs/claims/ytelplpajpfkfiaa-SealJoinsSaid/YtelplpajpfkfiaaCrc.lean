/- Plain maths of the check sum: eight turns of a register are linear, so a table of them serves. No condition. -/
import Derived.Laws.BitsAllLaws
namespace Go.Proofs.Ytelplpajpfkfiaa
namespace Crc

/-- One turn of the register. -/
def cs (s : Nat) : Nat := (s * 2 % 4294967296) ^^^ (if s.testBit 31 then 79764919 else 0)
def csn : Nat → Nat → Nat
  | 0, s => s
  | k + 1, s => cs (csn k s)
/-- What a register's highest byte does to it. -/
def tab (i : Nat) : Nat := csn 8 (i * 16777216)
/-- The register behind one byte more. -/
def byte (s c : Nat) : Nat := csn 8 (s ^^^ c * 16777216)
/-- The register behind these bytes. -/
def reg (s : Nat) (l : List UInt8) : Nat := l.foldl (fun s c => byte s c.toNat) s
/-- The check sum of these bytes. -/
def sum (l : List UInt8) : Nat := 4294967295 - reg 4294967295 l

theorem cs_lt {s : Nat} : cs s < 4294967296 := by
  unfold cs
  refine Nat.xor_lt_two_pow (n := 32) (Nat.mod_lt _ (by omega)) ?_
  split <;> omega
theorem csn_lt {k s : Nat} (h : s < 4294967296) : csn k s < 4294967296 := by
  cases k with
  | zero => exact h
  | succ k => exact cs_lt
theorem top {s : Nat} (h : s < 4294967296) : s.testBit 31 = decide (2147483648 ≤ s) := by
  rw [Nat.testBit_eq_decide_div_mod_eq]
  congr 1
  apply propext
  omega
theorem dbl (s i : Nat) : (s * 2 % 4294967296).testBit i = (decide (i < 32) && (decide (1 ≤ i) && s.testBit (i - 1))) := by
  rw [show (4294967296 : Nat) = 2 ^ 32 from rfl, Nat.testBit_mod_two_pow, show s * 2 = s <<< 1 by rw [Nat.shiftLeft_eq], Nat.testBit_shiftLeft]
theorem cs_xor (a b : Nat) : cs (a ^^^ b) = cs a ^^^ cs b := by
  apply Nat.eq_of_testBit_eq
  intro i
  unfold cs
  simp only [Nat.testBit_xor, dbl]
  cases decide (i < 32) <;> cases decide (1 ≤ i) <;> cases a.testBit 31 <;> cases b.testBit 31 <;> cases a.testBit (i - 1) <;> cases b.testBit (i - 1) <;> simp
theorem csn_xor (k a b : Nat) : csn k (a ^^^ b) = csn k a ^^^ csn k b := by
  induction k with
  | zero => rfl
  | succ k ih => simp only [csn]; rw [ih, cs_xor]
theorem csn_low (k s : Nat) (h : s * 2 ^ k < 4294967296) : csn k s = s * 2 ^ k := by
  induction k with
  | zero => simp [csn]
  | succ k ih =>
    rw [Nat.pow_succ, ← Nat.mul_assoc] at h ⊢
    rw [csn, ih (by omega), cs, top (by omega), decide_eq_false (by omega)]
    simp
    omega
theorem split24 (s : Nat) : s = (s / 16777216 * 16777216) ^^^ (s % 16777216) := by
  apply Nat.eq_of_testBit_eq
  intro i
  rw [Nat.testBit_xor, show (16777216 : Nat) = 2 ^ 24 from rfl, Nat.testBit_mod_two_pow, ← Nat.shiftLeft_eq, Nat.testBit_shiftLeft, ← Nat.shiftRight_eq_div_pow, Nat.testBit_shiftRight]
  by_cases h : i < 24
  · simp [h, show ¬ 24 ≤ i by omega]
  · simp [h, show 24 ≤ i by omega]
theorem byte_tab (s c : Nat) : byte s c = (s * 256 % 4294967296) ^^^ tab ((s / 16777216) ^^^ c) := by
  have h1 : s ^^^ c * 16777216 = ((s / 16777216) ^^^ c) * 16777216 ^^^ (s % 16777216) := by
    have h2 : ((s / 16777216) ^^^ c) * 16777216 = (s / 16777216 * 16777216) ^^^ (c * 16777216) := by
      rw [show (16777216 : Nat) = 2 ^ 24 from rfl, ← Nat.shiftLeft_eq, ← Nat.shiftLeft_eq, ← Nat.shiftLeft_eq, Nat.shiftLeft_xor_distrib]
    rw [h2]
    conv => lhs; rw [split24 s]
    rw [Nat.xor_assoc, Nat.xor_assoc, Nat.xor_comm (s % 16777216)]
  unfold byte tab
  rw [h1, csn_xor, csn_low 8 (s % 16777216) (by omega), Nat.xor_comm]
  congr 1
  omega
theorem byte_lt {s c : Nat} (h : s < 4294967296) (hc : c < 256) : byte s c < 4294967296 :=
  csn_lt (Nat.xor_lt_two_pow (n := 32) h (by omega))
theorem reg_lt (l : List UInt8) : ∀ {s : Nat}, s < 4294967296 → reg s l < 4294967296 := by
  induction l with
  | nil => intro s h; exact h
  | cons c r ih => intro s h; exact ih (byte_lt h c.toNat_lt)
theorem reg_snoc (s : Nat) (l : List UInt8) (c : UInt8) : reg s (l ++ [c]) = byte (reg s l) c.toNat := by simp [reg]
theorem reg_append (s : Nat) (a b : List UInt8) : reg s (a ++ b) = reg (reg s a) b := by simp [reg]
theorem sum_lt (l : List UInt8) : sum l < 4294967296 := by unfold sum; omega
theorem tab_lt {i : Nat} (h : i < 256) : tab i < 4294967296 := csn_lt (by omega)

/-- A sum's four bytes. -/
def four (n : Nat) : List UInt8 := [UInt8.ofNat (n / 16777216), UInt8.ofNat (n / 65536), UInt8.ofNat (n / 256), UInt8.ofNat n]
theorem four_length (n : Nat) : (four n).length = 4 := rfl
theorem four_inj {n m : Nat} (hn : n < 4294967296) (hm : m < 4294967296) (h : four n = four m) : n = m := by
  simp only [four, List.cons.injEq, ← UInt8.toNat_inj, UInt8.toNat_ofNat'] at h
  omega

/-- The turn as the program writes it. -/
theorem turn_bits (s : Nat) (h : s < 4294967296) : bits .xor .u32 ((s : Int) * 2 % 4294967296) (bits .and .u32 79764919 (-((s : Int) / 2147483648) % 4294967296)) = (cs s : Int) := by
  have e1 : (s : Int) * 2 % 4294967296 = ((s * 2 % 4294967296 : Nat) : Int) := by omega
  rw [e1]
  unfold cs
  rw [top h]
  by_cases h2 : 2147483648 ≤ s
  · have e2 : -((s : Int) / 2147483648) % 4294967296 = ((4294967295 : Nat) : Int) := by
      rw [show (s : Int) / 2147483648 = 1 by omega]
      rfl
    rw [e2, show (79764919 : Int) = ((79764919 : Nat) : Int) from rfl, u32_and_nat _ _ (by omega) (by omega), show (79764919 &&& 4294967295 : Nat) = 79764919 from rfl, u32_xor_nat _ _ (Nat.mod_lt _ (by omega)) (by omega)]
    simp [h2]
  · have e2 : -((s : Int) / 2147483648) % 4294967296 = ((0 : Nat) : Int) := by
      rw [show (s : Int) / 2147483648 = 0 by omega]
      rfl
    rw [e2, show (79764919 : Int) = ((79764919 : Nat) : Int) from rfl, u32_and_nat _ _ (by omega) (by omega), show (79764919 &&& 0 : Nat) = 0 from rfl, u32_xor_nat _ _ (Nat.mod_lt _ (by omega)) (by omega)]
    simp [h2]
end Crc
end Go.Proofs.Ytelplpajpfkfiaa
