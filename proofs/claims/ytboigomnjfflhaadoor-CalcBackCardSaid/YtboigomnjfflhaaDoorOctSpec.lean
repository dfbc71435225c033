/- Plain mathematics of varints: a count's digits in base 128, the highest first, and its bytes. No condition. -/
import Derived.Below
namespace Go.Proofs.YtboigomnjfflhaaDoor.Oct

/-- A digit that others follow; the last one. -/
def dig7 (n : Nat) : UInt8 := UInt8.ofNat (n % 128 + 128)
def low7 (n : Nat) : UInt8 := UInt8.ofNat (n % 128)

/-- The digits of n in base 128, the highest first, 128 added to each; none of 0. -/
def digs (n : Nat) : List UInt8 := if _h : n = 0 then [] else digs (n / 128) ++ [dig7 n]
  termination_by n
  decreasing_by exact Nat.div_lt_self (Nat.pos_of_ne_zero _h) (by omega)

/-- A count in bytes. -/
def enc (n : Nat) : List UInt8 := digs (n / 128) ++ [low7 n]

theorem digs_zero : digs 0 = [] := by rw [digs]; simp
theorem digs_pos (n : Nat) (h : n ≠ 0) : digs n = digs (n / 128) ++ [dig7 n] := by
  conv => lhs; rw [digs]
  simp [h]

/-- Bytes as cells. -/
def cells (l : List UInt8) : List Value := l.map fun b => .int .u8 (b.toNat : Int)

theorem cells_length (l : List UInt8) : (cells l).length = l.length := by simp [cells]
theorem cells_append (a b : List UInt8) : cells (a ++ b) = cells a ++ cells b := by simp [cells]
theorem cells_nil : cells [] = [] := rfl
theorem cells_one (b : UInt8) : cells [b] = [.int .u8 (b.toNat : Int)] := rfl

theorem digs_len (n k : Nat) (h : n < 128 ^ k) : (digs n).length ≤ k := by
  induction k generalizing n with
  | zero =>
    have : n = 0 := by simpa using h
    subst this
    simp [digs_zero]
  | succ k ih =>
    by_cases h0 : n = 0
    · subst h0; simp [digs_zero]
    · rw [digs_pos n h0]
      have : n / 128 < 128 ^ k := by
        apply Nat.div_lt_of_lt_mul
        rw [Nat.pow_succ] at h
        omega
      have := ih _ this
      simp
      omega

theorem enc_pos (n : Nat) : 0 < (enc n).length := by simp [enc]
theorem enc_len (n : Nat) (h : n < 18446744073709551616) : (enc n).length ≤ 10 := by
  have := digs_len (n / 128) 9 (by omega)
  simp [enc]
  omega

theorem digs_mono (n : Nat) : ∀ m, m ≤ n → (digs m).length ≤ (digs n).length := by
  induction n using Nat.strongRecOn with
  | _ n ih =>
    intro m hm
    by_cases h0 : m = 0
    · subst h0; simp [digs_zero]
    · have hn : n ≠ 0 := by omega
      rw [digs_pos m h0, digs_pos n hn]
      have := ih (n / 128) (by omega) (m / 128) (by omega)
      simp
      omega
theorem enc_mono {m n : Nat} (h : m ≤ n) : (enc m).length ≤ (enc n).length := by
  have := digs_mono (n / 128) (m / 128) (by omega)
  simp [enc]
  omega
/-- What digits say. -/
def num : List UInt8 → Nat
  | l => l.foldl (fun a b => a * 128 + b.toNat % 128) 0
theorem num_snoc (l : List UInt8) (b : UInt8) : num (l ++ [b]) = num l * 128 + b.toNat % 128 := by simp [num]
theorem toNat_ofNat8 (m : Nat) (h : m < 256) : (UInt8.ofNat m).toNat = m := by
  simp; omega
theorem num_digs (n : Nat) : num (digs n) = n := by
  induction n using Nat.strongRecOn with
  | _ n ih =>
    by_cases h0 : n = 0
    · subst h0; rw [digs_zero]; rfl
    · rw [digs_pos n h0, num_snoc, ih (n / 128) (by omega), dig7, toNat_ofNat8 _ (by omega)]
      omega
theorem num_enc (n : Nat) : num (enc n) = n := by
  rw [enc, num_snoc, num_digs, low7, toNat_ofNat8 _ (by omega)]
  omega
theorem enc_inj {m n : Nat} (h : enc m = enc n) : m = n := by rw [← num_enc m, h, num_enc]

theorem pow7 (k : Nat) : (2 : Nat) ^ (7 * k) = 128 ^ k := by rw [Nat.pow_mul]
theorem pow7_int (k : Nat) : (2 : Int) ^ (7 * k) = ((128 ^ k : Nat) : Int) := by rw [← pow7]; simp
theorem big_of {n k : Nat} (h : (128 : Int) ≤ (n : Int) / 2 ^ (7 * k)) : 128 ≤ n / 128 ^ k := by
  rw [pow7_int, ← Int.natCast_ediv] at h
  omega
theorem shift_lt {n k : Nat} (hn : n < 2 ^ 64) (h : (128 : Int) ≤ (n : Int) / 2 ^ (7 * k)) : k < 9 := by
  have h1 := big_of h
  rcases Nat.lt_or_ge k 9 with h9 | h9
  · exact h9
  · have h2 : (128 : Nat) ^ 9 ≤ 128 ^ k := Nat.pow_le_pow_right (by omega) h9
    have h3 : n / 128 ^ k ≤ n / 128 ^ 9 := Nat.div_le_div_left h2 (by omega)
    omega

/-- n is at least 128 one digit before the k-th. -/
def Big (n k : Nat) : Prop := k = 0 ∨ 128 ≤ n / 128 ^ (k - 1)

theorem mod128_or (m : Nat) : (m % 256) ||| 128 = m % 128 + 128 := by
  have h : ∀ x : Fin 256, x.val ||| 128 = x.val % 128 + 128 := by decide +kernel
  have := h ⟨m % 256, Nat.mod_lt _ (by omega)⟩
  simp only at this
  omega
theorem digs_step {n k j : Nat} (hB : Big n k) (hj : j ≤ k) (h0 : 0 < j) : digs (n / 128 ^ j) = digs (n / 128 ^ (j + 1)) ++ [dig7 (n / 128 ^ j)] := by
  have hne : n / 128 ^ j ≠ 0 := by
    rcases hB with h | h
    · omega
    · have h1 : (128 : Nat) ^ (j - 1) ≤ 128 ^ (k - 1) := Nat.pow_le_pow_right (by omega) (by omega)
      have h2 : n / 128 ^ (k - 1) ≤ n / 128 ^ (j - 1) := Nat.div_le_div_left h1 (Nat.pow_pos (by omega))
      obtain ⟨i, rfl⟩ : ∃ i, j = i + 1 := ⟨j - 1, by omega⟩
      rw [Nat.pow_succ, ← Nat.div_div_eq_div_mul]
      simp at h2
      omega
  rw [digs_pos _ hne, Nat.pow_succ, Nat.div_div_eq_div_mul]
theorem digs_start {n k : Nat} (h : (n : Int) / 2 ^ (7 * k) < 128) : digs (n / 128 ^ (k + 1)) = [] := by
  rw [pow7_int, ← Int.natCast_ediv] at h
  rw [Nat.pow_succ, ← Nat.div_div_eq_div_mul, Nat.div_eq_of_lt (by omega), digs_zero]

/-- A count taken from the front, at most m: its value, how many bytes were looked at, what is wrong (0: nothing; 3: no further byte; 4: no form). -/
def tkc (m : Nat) : Bool → Nat → Nat → List UInt8 → Nat × Nat × Int
  | _, _, i, [] => (0, i, 3)
  | first, n, i, c :: r =>
    if (first && c == 128) || decide (m / 128 < n) || (decide (n = m / 128) && decide (m % 128 < c.toNat % 128)) then (0, i + 1, 4)
    else if c.toNat < 128 then (n * 128 + c.toNat % 128, i + 1, 0)
    else tkc m false (n * 128 + c.toNat % 128) (i + 1) r

theorem tkc_le (m : Nat) (f : Bool) (n i : Nat) (l : List UInt8) : (tkc m f n i l).1 ≤ m := by
  induction l generalizing f n i with
  | nil => simp [tkc]
  | cons c r ih =>
    rw [tkc]
    split
    · exact Nat.zero_le _
    · rename_i hb
      simp only [Bool.or_eq_true, Bool.and_eq_true, decide_eq_true_eq, not_or, not_and] at hb
      have h2 := hb.2
      have h1 := hb.1.2
      split
      · show n * 128 + c.toNat % 128 ≤ m
        by_cases hn : n = m / 128
        · have := h2 hn; omega
        · omega
      · exact ih ..
theorem tkc_used (m : Nat) (f : Bool) (n i : Nat) (l : List UInt8) : i ≤ (tkc m f n i l).2.1 ∧ (tkc m f n i l).2.1 ≤ i + l.length := by
  induction l generalizing f n i with
  | nil => simp [tkc]
  | cons c r ih =>
    rw [tkc]
    split
    · simp
    · split
      · simp
      · have := ih false (n * 128 + c.toNat % 128) (i + 1)
        simp only [List.length_cons]
        omega
theorem tkc_err (m : Nat) (f : Bool) (n i : Nat) (l : List UInt8) : (tkc m f n i l).2.2 = 0 ∨ ((tkc m f n i l).1 = 0 ∧ ((tkc m f n i l).2.2 = 3 ∨ (tkc m f n i l).2.2 = 4)) := by
  induction l generalizing f n i with
  | nil => simp [tkc]
  | cons c r ih =>
    rw [tkc]
    split
    · simp
    · split
      · simp
      · exact ih ..

/-- A count taken from the front. -/
def cnt (m : Nat) (l : List UInt8) : Nat × Nat × Int := tkc m true 0 0 l
theorem cnt_le (m : Nat) (l : List UInt8) : (cnt m l).1 ≤ m := tkc_le ..
theorem cnt_used (m : Nat) (l : List UInt8) : (cnt m l).2.1 ≤ l.length := by have := (tkc_used m true 0 0 l).2; simpa [cnt] using this
theorem cnt_err (m : Nat) (l : List UInt8) : (cnt m l).2.2 = 0 ∨ ((cnt m l).1 = 0 ∧ ((cnt m l).2.2 = 3 ∨ (cnt m l).2.2 = 4)) := tkc_err ..

def maxI : Nat := 9223372036854775807
def maxU : Nat := 18446744073709551615

/-- What TakeUint answers: the value, the bytes used, what is wrong. -/
def takeU (m : Nat) (l : List UInt8) : Nat × Nat × Int := ((cnt m l).1, if (cnt m l).2.2 = 0 then (cnt m l).2.1 else 0, (cnt m l).2.2)
/-- The number that a count stands for. -/
def unfold1 (u : Nat) : Int := if u % 2 = 0 then (u / 2 : Nat) else -((u / 2 : Nat) : Int) - 1
/-- A number's count. -/
def fold1 (n : Int) : Nat := if 0 ≤ n then 2 * n.toNat else 2 * (-(n + 1)).toNat + 1
end Go.Proofs.YtboigomnjfflhaaDoor.Oct
