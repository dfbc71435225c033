/- seal.four, bytes.Equal, bytes.Clone. Condition: the bytes can be read. -/
import Derived.Test.YtelplpajpfkfiaaRSum
set_option linter.unusedVariables false
namespace Go.Proofs.Ytelplpajpfkfiaa
open Go.RowKit Oct

/-- A slice of its own, just laid. -/
theorem own_lit (w : World) (base : Nat) (e : TypeId) (xs : List Value) (n : Nat) (hn : n = xs.length) (hb : base ≤ w.heap.size) (hl : xs.length ≤ 9223372036854775807) : Own (w.alloc (.cells xs.toArray e)) base e (.slice (some ⟨w.heap.size, 0, none⟩) n n) xs := by
  subst hn
  exact ⟨by simp, .inr ⟨w.heap.size, xs.length, xs.toArray, rfl, hb, heap_alloc_new w _, Nat.le_refl _, by unfold maxLen; omega, by simp, by simp⟩⟩
theorem byte_val (x : Nat) (y : Int) (h : y % 256 = ((x % 256 : Nat) : Int)) : Value.int .u8 (y % 256) = .int .u8 (((UInt8.ofNat x).toNat : Nat) : Int) := by
  rw [UInt8.toNat_ofNat', h]
theorem four_cells (n : Nat) (h : n < 4294967296) : cells (Crc.four n) = [.int .u8 ((n : Int) / 16777216), .int .u8 ((n : Int) / 65536 % 256), .int .u8 ((n : Int) / 256 % 256), .int .u8 ((n : Int) % 256)] := by
  simp only [cells, Crc.four, List.map_cons, List.map_nil]
  rw [← byte_val (n / 16777216) ((n : Int) / 16777216) (by omega), ← byte_val (n / 65536) ((n : Int) / 65536) (by omega), ← byte_val (n / 256) ((n : Int) / 256) (by omega), ← byte_val n (n : Int) (by omega), show (n : Int) / 16777216 % 256 = (n : Int) / 16777216 by omega]

set_option maxRecDepth 100000 in
theorem four_any (n : Nat) (N : Int) (hN : N = (n : Int)) (h : n < 4294967296) (w : World) :
    Calls Try.prog 77 #[.int .i64 N] w fun e w' => ∃ v, e = .returned v ∧ Bs w' w.heap.size v (Crc.four n) ∧ Below w.heap.size w w' := by
  subst hN
  go_enter Try.func77, Try.ntmps77
  go_wp2
  go_ret
  refine ⟨_, rfl, ?_, (Below.refl _ _).alloc (Nat.le_refl _) _⟩
  have := own_lit w w.heap.size 5 (cells (Crc.four n)) 4 (by rw [cells_length]; rfl) (Nat.le_refl _) (by rw [cells_length]; simp [Crc.four])
  rw [four_cells n h] at this
  unfold Bs
  rw [four_cells n h]
  exact this

theorem str_beq (a b : List UInt8) : ((str a).toList == (str b).toList) = decide (a = b) := by
  rw [str_toList, str_toList]
  by_cases hab : a = b
  · simp [hab]
  · rw [decide_eq_false hab]
    exact beq_eq_false_iff_ne.2 hab

set_option maxRecDepth 100000 in
theorem equal_any (A B : Option Addr) (l m : List UInt8) (n1 n2 c d K : Nat) (hn1 : n1 = l.length) (hn2 : n2 = m.length) (w : World) (ha : Rd w K A (cells l)) (hb : Rd w K B (cells m)) :
    Calls Try.prog 78 #[.slice A n1 c, .slice B n2 d] w fun e w' => e = .returned (.bool (decide (l = m))) ∧ w = w' := by
  subst hn1; subst hn2
  have k1 := str_of c ha
  have k2 := str_of d hb
  have k3 := str_beq l m
  clear ha hb
  go_enter Try.func78, Try.ntmps78
  go_wp2
  go_ret
  exact ⟨rfl, rfl⟩

set_option maxRecDepth 100000 in
theorem clone_any (A : Option Addr) (l : List UInt8) (n c : Nat) (hn : n = l.length) (w : World) (hr : Rd w w.heap.size A (cells l)) (hl : l.length ≤ 140737488351232) :
    Calls Try.prog 79 #[.slice A n c] w fun e w' => ∃ v, e = .returned v ∧ Bs w' w.heap.size v l ∧ Below w.heap.size w w' := by
  subst hn
  cases A with
  | none =>
    have h0 : l = [] := by
      refine Classical.byContradiction fun h => ?_
      obtain ⟨ad, h1, _⟩ := hr (by rw [cells_length]; exact List.length_pos_iff.2 h)
      cases h1
    subst h0
    clear hr
    have he : ∀ W : World, (binOp .eql 22 (.slice none 0 c) (.slice none 0 0)).run Try.prog W = .ok (.bool true) W := fun _ => rfl
    go_enter Try.func79, Try.ntmps79
    go_wp2
    go_ret
    exact ⟨_, rfl, Own.nil _ _ _, Below.refl _ _⟩
  | some ad =>
    have he : ∀ W : World, (binOp .eql 22 (.slice (some ad) l.length c) (.slice none 0 0)).run Try.prog W = .ok (.bool false) W := fun _ => rfl
    go_enter Try.func79, Try.ntmps79
    go_wp2_with (at_builtin; refine wpList_app0 rfl (.tmp 5) (.tmp 6) 22 rfl 5 (.int .u8 0) 1 Try.underlying22 info_u8 rfl rfl (some ad) l.length c _ rfl (cells_length _).symm hr (bytes_one _) (by omega) (by omega) ?_; intro v1 w1 hov hb)
    go_ret
    exact ⟨_, rfl, hov, hb⟩
end Go.Proofs.Ytelplpajpfkfiaa
