/- The writers of layer 1 and of its reference at every input, each in one statement. Condition: ints fit their kind, texts and rows take at most 2^47 bytes. -/
import Derived.Test.YtelplpajpfkfiaaRef4
import Derived.Test.YtelplpajpfkfiaaOwned
import Derived.Test.YtelplpajpfkfiaaOpen
set_option linter.unusedVariables false
namespace Go.Proofs.Ytelplpajpfkfiaa
open Go.RowKit Oct

/-- What Uint answers. -/
def encI (n : Int) : List UInt8 := if n < 0 then [] else enc n.toNat
def errI (n : Int) : Int := if n < 0 then 1 else 0
def encT (l : List UInt8) : List UInt8 := if 65535 < l.length then [] else enc l.length ++ l
def errT (l : List UInt8) : Int := if 65535 < l.length then 2 else 0
def encZ (z : List Int) : List UInt8 := if 4096 < z.length then [] else enc z.length ++ encs z
def errZ (z : List Int) : Int := if 4096 < z.length then 2 else 0

theorem uint_tot (n : Int) (h : n ≤ 9223372036854775807) (w : World) :
    Calls Try.prog 19 #[.int .i64 n] w fun e w' => ∃ v, e = .returned (.tuple #[v, .int .i64 (errI n)]) ∧ Bs w' w.heap.size v (encI n) ∧ Below w.heap.size w w' := by
  unfold encI errI
  by_cases h0 : n < 0
  · rw [if_pos h0, if_pos h0]
    refine (uint_neg n w h0).mono ?_
    rintro e w' ⟨rfl, rfl⟩
    exact ⟨_, rfl, Own.nil _ _ _, Below.refl _ _⟩
  · rw [if_neg h0, if_neg h0]
    exact uint_at n.toNat n (by omega) w (by omega)
theorem ruint_tot (n : Int) (h : n ≤ 9223372036854775807) (w : World) :
    Calls Try.prog 25 #[.int .i64 n] w fun e w' => ∃ v, e = .returned (.tuple #[v, .int .i64 (errI n)]) ∧ Bs w' w.heap.size v (encI n) ∧ Below w.heap.size w w' := by
  unfold encI errI
  by_cases h0 : n < 0
  · rw [if_pos h0, if_pos h0]
    refine (ruint_neg n w h0).mono ?_
    rintro e w' ⟨rfl, rfl⟩
    exact ⟨_, rfl, Own.nil _ _ _, Below.refl _ _⟩
  · rw [if_neg h0, if_neg h0]
    obtain ⟨k, rfl⟩ := Int.eq_ofNat_of_zero_le (by omega : 0 ≤ n)
    rw [Int.toNat_natCast]
    exact ruint_pos k w (by omega)

theorem text_tot (s : ByteArray) (h : s.size ≤ 140737488351232) (w : World) :
    Calls Try.prog 32 #[.string s] w fun e w' => ∃ v, e = .returned (.tuple #[v, .int .i64 (errT s.data.toList)]) ∧ Bs w' w.heap.size v (encT s.data.toList) ∧ Below w.heap.size w w' := by
  have hs : s.data.toList.length = s.size := by simp
  unfold encT errT
  rw [hs]
  by_cases h0 : 65535 < s.size
  · rw [if_pos h0, if_pos h0]
    refine (text_long s w h0 (by omega)).mono ?_
    rintro e w' ⟨rfl, rfl⟩
    exact ⟨_, rfl, Own.nil _ _ _, Below.refl _ _⟩
  · rw [if_neg h0, if_neg h0]
    exact text_ok s w (by omega)
theorem rtext_tot (s : ByteArray) (h : s.size ≤ 140737488351232) (w : World) :
    Calls Try.prog 34 #[.string s] w fun e w' => ∃ v, e = .returned (.tuple #[v, .int .i64 (errT s.data.toList)]) ∧ Bs w' w.heap.size v (encT s.data.toList) ∧ Below w.heap.size w w' := by
  have hs : s.data.toList.length = s.size := by simp
  unfold encT errT
  rw [hs]
  by_cases h0 : 65535 < s.size
  · rw [if_pos h0, if_pos h0]
    refine (rtext_long s w h0 (by omega)).mono ?_
    rintro e w' ⟨rfl, rfl⟩
    exact ⟨_, rfl, Own.nil _ _ _, Below.refl _ _⟩
  · rw [if_neg h0, if_neg h0]
    exact rtext_ok s w (by omega)

theorem ints_tot (A : Option Addr) (z : List Int) (n c : Nat) (hn : n = z.length) (w : World) (hr : Rd w w.heap.size A (z.map (Value.int .i64))) (hz : ∀ n ∈ z, -9223372036854775808 ≤ n ∧ n ≤ 9223372036854775807) (h : z.length ≤ 140737488351232) :
    Calls Try.prog 36 #[.slice A n c] w fun e w' => ∃ v, e = .returned (.tuple #[v, .int .i64 (errZ z)]) ∧ Bs w' w.heap.size v (encZ z) ∧ Below w.heap.size w w' := by
  subst hn
  unfold encZ errZ
  by_cases h0 : 4096 < z.length
  · rw [if_pos h0, if_pos h0]
    refine (ints_long A _ c w h0 (by omega)).mono ?_
    rintro e w' ⟨rfl, rfl⟩
    exact ⟨_, rfl, Own.nil _ _ _, Below.refl _ _⟩
  · rw [if_neg h0, if_neg h0]
    exact ints_ok A z c w hr hz (by omega)
theorem rints_tot (A : Option Addr) (z : List Int) (n c : Nat) (hn : n = z.length) (w : World) (hr : Rd w w.heap.size A (z.map (Value.int .i64))) (hz : ∀ n ∈ z, -9223372036854775808 ≤ n ∧ n ≤ 9223372036854775807) (h : z.length ≤ 140737488351232) :
    Calls Try.prog 38 #[.slice A n c] w fun e w' => ∃ v, e = .returned (.tuple #[v, .int .i64 (errZ z)]) ∧ Bs w' w.heap.size v (encZ z) ∧ Below w.heap.size w w' := by
  subst hn
  unfold encZ errZ
  by_cases h0 : 4096 < z.length
  · rw [if_pos h0, if_pos h0]
    refine (rints_long A _ c w h0 (by omega)).mono ?_
    rintro e w' ⟨rfl, rfl⟩
    exact ⟨_, rfl, Own.nil _ _ _, Below.refl _ _⟩
  · rw [if_neg h0, if_neg h0]
    exact rints_ok A z c w hr hz (by omega)

/-- A slice of the call's own and one that was lent earlier lie apart. -/
theorem apart_lent {w : World} {base g : Nat} {v : Value} {e : TypeId} {xs : List Value} {n c : Nat} (h : Own w base e v xs) (hg : g < base) : ∀ k, v.ownBlock = some k → Value.ownBlock (.slice (some ⟨g, 0, none⟩) n c) ≠ some k := by
  intro k hk h'
  have h1 := (h.lt k hk).1
  have h2 : g = k := by simpa [Value.ownBlock] using h'
  omega
end Go.Proofs.Ytelplpajpfkfiaa
