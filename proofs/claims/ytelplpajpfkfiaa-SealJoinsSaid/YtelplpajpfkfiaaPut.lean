/- octet.put: it puts a count's bytes behind a row of the call's own. Condition: the row's length, 10 added, is at most 2^47. -/
import Derived.Test.YtelplpajpfkfiaaChecked
import Derived.Test.YtelplpajpfkfiaaOctSpec
import Derived.Test.YtelplpajpfkfiaaMem
import Derived.Test.YtelplpajpfkfiaaConv
import Derived.Laws.BitsAllLaws
import Derived.WalkKit
import Derived.WalkLawsBesides
import Derived.Lib.Hide
import Derived.Outline
namespace Go.Proofs.Ytelplpajpfkfiaa
open Go.RowKit Oct

theorem info_u8 : (Try.prog.info? 5).map (fun i => (i.zero, i.size, i.bytes)) = some (some (.int .u8 0), 1, 1) := by kernel_rfl


/-- A slice of bytes of the call's own. -/
abbrev Bs (w : World) (base : Nat) (v : Value) (l : List UInt8) : Prop := Own w base 5 v (cells l)

theorem bs_shape {w : World} {base : Nat} {v : Value} {l : List UInt8} (h : Bs w base v l) : ∃ A c, v = .slice A l.length c ∧ l.length ≤ c ∧ c ≤ 9223372036854775807 ∧ Rd w w.heap.size A (cells l) := by
  obtain ⟨A, c, hv, hc, hm, hr⟩ := Own.shape h
  rw [cells_length] at hv hc
  exact ⟨A, c, hv, hc, by unfold maxLen at hm; omega, hr⟩
theorem str_of {w : World} {B : Nat} {A : Option Addr} {l : List UInt8} (c : Nat) (h : Rd w B A (cells l)) : (convert 22 9 (.slice A l.length c)).run Try.prog w = .ok (.string (str l)) w :=
  run_str 22 9 5 Try.underlying22 Try.underlying5 Try.underlying9 _ c rfl h

theorem or_digit (n j : Nat) : bits .or .u8 ((n : Int) / 2 ^ (7 * j) % 256) 128 = ((dig7 (n / 128 ^ j)).toNat : Int) := by
  unfold dig7
  rw [pow7_int, ← Int.natCast_ediv, toNat_ofNat8 _ (by omega), ← mod128_or, u8_or _ _ (by omega) (by omega) (by omega) (by omega)]
  congr 1
theorem andNot_digit (n : Nat) : bits .andNot .u8 ((n : Int) % 256) 128 = ((low7 n).toNat : Int) := by
  unfold low7
  rw [toNat_ofNat8 _ (by omega), u8_andNot _ _ (by omega) (by omega) (by omega) (by omega)]
  have h : ∀ x : Fin 256, x.val &&& 127 = x.val % 128 := by decide +kernel
  have := h ⟨n % 256, Nat.mod_lt _ (by omega)⟩
  simp only at this
  have e1 : ((n : Int) % 256).toNat = n % 256 := by omega
  rw [e1]
  show (((n % 256) &&& 127 : Nat) : Int) = _
  omega

set_option maxRecDepth 100000 in
theorem put_any (v : Value) (l : List UInt8) (n : Nat) (base : Nat) (w : World) (hn : n < 2^64) (hl : l.length + 11 ≤ 140737488355328) (hb : base ≤ w.heap.size)
    (hown : Bs w base v l) :
    Calls Try.prog 66 #[v, .int .u64 n] w fun e w' => ∃ v', e = .returned v' ∧ Bs w' base v' (l ++ enc n) ∧ w.grownBy w' v.ownBlock ∧ Fresh v' v.ownBlock w.heap.size := by
  have Hn := Lib.hid hn
  clear hn
  go_enter Try.func66, Try.ntmps66
  go_wp2
  go_loop [5] (fun s => ∃ k : Nat, k ≤ 9 ∧ s = .int .i64 (7 * k : Nat) ∧ Big n k) (fun s => 64 - (intOf s).toNat)
  case atStart => exact ⟨0, by omega, rfl, .inl rfl⟩
  case round =>
    obtain ⟨k, hk, rfl, hkk⟩ := hrel
    go_wp2
    · have h128 : (128 : Int) ≤ (n : Int) / 2 ^ (7 * k) := by assumption
      have hk9 : k < 9 := shift_lt Hn.out h128
      have hB : Big n (k + 1) := .inr (by rw [Nat.add_sub_cancel]; exact big_of h128)
      go_round
      case rel => exact ⟨k + 1, by omega, by go_num, hB⟩
      case measure => simp [intOf]; omega
    · have hlt : (n : Int) / 2 ^ (7 * k) < 128 := by assumption
      have hst := digs_start hlt
      go_loopw [0, 5] (fun b s wr => ∃ j : Nat, j ≤ k ∧ s = .int .i64 (7 * j : Nat) ∧ Bs wr base b (l ++ digs (n / 128 ^ (j + 1))) ∧ w.grownBy wr v.ownBlock ∧ Fresh b v.ownBlock w.heap.size) (fun _ s _ => (intOf s).toNat)
      case atStart => exact ⟨k, Nat.le_refl _, rfl, by rw [hst, List.append_nil]; exact hown, World.grownBy.refl _ _, .inl rfl⟩
      case round =>
        clear hst
        obtain ⟨j, hj, rfl, hown1, hg1, hat⟩ := hrel
        have hlen : (l ++ digs (n / 128 ^ (j + 1))).length ≤ l.length + 10 := by
          have := digs_len (n / 128 ^ (j + 1)) 10 (by have := Hn.out; have : n / 128 ^ (j + 1) ≤ n := Nat.div_le_self _ _; omega)
          simp; omega
        have hsz := hg1.size
        by_cases h0 : 0 < j
        · have hst := digs_step hkk hj h0
          have HST := Lib.hid hst
          clear hst
          go_wp2_with (at_builtin; refine wpList_push rfl (.tmp 16) (.tmp 22) 22 rfl base 5 (.int .u8 0) 1 Try.underlying22 info_u8 rfl _ _ _ _ (congrArg (Value.int .u8) (or_digit n j)) rfl hown1 rfl rfl (by rw [cells_length]; omega) (by rw [cells_length]; omega) (by omega) ?_)
          intro v' w1 hown' hg' hf'
          have hown2 : Bs w1 base v' (l ++ digs (n / 128 ^ j)) := by rw [HST.out, ← List.append_assoc]; unfold Bs; rw [cells_append]; exact hown'
          have hgg := grown_then hg1 hg' hat
          have hff := fresh_then hat hf' hsz
          clear hown' hg' hf' hown1 hg1 hat
          go_wp2
          go_roundw
          case rel => exact ⟨j - 1, by omega, by go_num, by rw [show j - 1 + 1 = j by omega]; exact hown2, hgg, hff⟩
          case measure => simp [intOf]; omega
        · obtain rfl : j = 0 := by omega
          go_wp2_with (at_builtin; refine wpList_push rfl (.tmp 24) (.tmp 28) 22 rfl base 5 (.int .u8 0) 1 Try.underlying22 info_u8 rfl _ _ _ _ (congrArg (Value.int .u8) (andNot_digit n)) rfl hown1 rfl rfl (by rw [cells_length]; omega) (by rw [cells_length]; omega) (by omega) ?_)
          intro v' w1 hown' hg' hf'
          have hgg := grown_then hg1 hg' hat
          have hff := fresh_then hat hf' hsz
          have hown2 : Bs w1 base v' (l ++ enc n) := by
            unfold Bs enc
            rw [← List.append_assoc, cells_append]
            exact hown'
          clear hown' hg' hf' hown1 hg1 hat
          go_wp2
          go_ret
          exact ⟨v', rfl, hown2, hgg, hff⟩
end Go.Proofs.Ytelplpajpfkfiaa
