/- octet's folded, Int, Text, Ints. Condition: ints fit their kind, a text takes at most 2^47 bytes. -/
import Derived.Test.YtelplpajpfkfiaaUint
import Derived.Lib.AppendStr
set_option linter.unusedVariables false
namespace Go.Proofs.Ytelplpajpfkfiaa
open Go.RowKit Oct

theorem xor_ones (x : Nat) (h : x < 18446744073709551616) : x ^^^ 18446744073709551615 = 18446744073709551615 - x := by
  have h1 : (BitVec.ofNat 64 x ^^^ BitVec.allOnes 64).toNat = x ^^^ 18446744073709551615 := by
    rw [BitVec.toNat_xor, BitVec.toNat_ofNat, BitVec.toNat_allOnes, Nat.mod_eq_of_lt (by omega)]
  rw [← h1, BitVec.xor_allOnes, BitVec.toNat_not, BitVec.toNat_ofNat, Nat.mod_eq_of_lt (by omega)]

theorem folded_eq (n : Int) (h : -9223372036854775808 ≤ n ∧ n ≤ 9223372036854775807) :
    bits .xor .u64 (IntKind.u64.wrap (IntKind.u64.wrap n * 2)) (IntKind.u64.wrap (n / 9223372036854775808)) = ((fold1 n : Nat) : Int) := by
  have hw : ∀ x : Int, IntKind.u64.wrap x = x % 18446744073709551616 := fun x => by simp [IntKind.wrap, IntKind.bits, IntKind.signed]
  by_cases hn : 0 ≤ n
  · obtain ⟨k, rfl⟩ := Int.eq_ofNat_of_zero_le hn
    rw [hw, hw, hw, show ((k : Int) % 18446744073709551616 * 2) % 18446744073709551616 = ((2 * k : Nat) : Int) by omega, show ((k : Int) / 9223372036854775808) % 18446744073709551616 = ((0 : Nat) : Int) by omega,
      u64_xor_nat _ _ (by omega) (by omega), Nat.xor_zero, fold1, if_pos hn]
    simp
  · obtain ⟨k, hk⟩ : ∃ k : Nat, n = -(k : Int) - 1 := ⟨(-(n + 1)).toNat, by omega⟩
    subst hk
    rw [hw, hw, hw, show ((-(k : Int) - 1) % 18446744073709551616 * 2) % 18446744073709551616 = ((18446744073709551614 - 2 * k : Nat) : Int) by omega,
      show ((-(k : Int) - 1) / 9223372036854775808) % 18446744073709551616 = ((18446744073709551615 : Nat) : Int) by omega,
      u64_xor_nat _ _ (by omega) (by omega), fold1, if_neg hn]
    have h2 : (18446744073709551614 - 2 * k) ^^^ 18446744073709551615 = 2 * k + 1 := by
      rw [xor_ones _ (by omega)]
      omega
    rw [h2]
    congr 1
    omega

theorem fold1_lt (n : Int) (h : -9223372036854775808 ≤ n ∧ n ≤ 9223372036854775807) : fold1 n < 2 ^ 64 := by
  unfold fold1
  split <;> omega

set_option maxRecDepth 100000 in
theorem folded_any (n : Int) (h : -9223372036854775808 ≤ n ∧ n ≤ 9223372036854775807) (w : World) :
    Calls Try.prog 72 #[.int .i64 n] w fun e w' => e = .returned (.int .u64 (fold1 n : Nat)) ∧ w = w' := by
  have H := Lib.hid h
  clear h
  go_enter Try.func72, Try.ntmps72
  go_wp2
  go_ret
  exact ⟨ret_int (folded_eq n H.out), rfl⟩

theorem int_any (n : Int) (h : -9223372036854775808 ≤ n ∧ n ≤ 9223372036854775807) (w : World) :
    Calls Try.prog 28 #[.int .i64 n] w fun e w' => ∃ v, e = .returned v ∧ Bs w' w.heap.size v (enc (fold1 n)) ∧ Below w.heap.size w w' := by
  have hlt := Lib.hid (fold1_lt n h)
  have H := Lib.hid h
  clear h
  go_enter Try.func28, Try.ntmps28
  go_wp2_with fail
  refine (folded_any n H.out _).mono ?_
  rintro e w1 ⟨rfl, rfl⟩
  go_wp2_with fail
  refine (put_any (.slice none 0 0) [] (fold1 n) w.heap.size w hlt.out (by simp) (Nat.le_refl _) (Own.nil _ _ _)).mono ?_
  rintro e w1 ⟨v, rfl, hown, hg, _⟩
  have hb := below_of_grown hg
  clear hg
  go_wp2
  go_ret
  exact ⟨v, rfl, hown, hb⟩

set_option maxRecDepth 100000 in
theorem text_long (s : ByteArray) (w : World) (h : 65535 < s.size) (h2 : s.size ≤ 9223372036854775807) :
    Calls Try.prog 32 #[.string s] w fun e w' => e = .returned (.tuple #[.slice none 0 0, .int .i64 2]) ∧ w = w' := by
  go_enter Try.func32, Try.ntmps32
  go_wp2
  go_ret2
  exact ⟨rfl, rfl⟩

theorem strCells_eq (s : ByteArray) : Lib.strCells s = cells s.data.toList := rfl

set_option maxRecDepth 100000 in
theorem text_ok (s : ByteArray) (w : World) (h : s.size ≤ 65535) :
    Calls Try.prog 32 #[.string s] w fun e w' => ∃ v, e = .returned (.tuple #[v, .int .i64 0]) ∧ Bs w' w.heap.size v (enc s.size ++ s.data.toList) ∧ Below w.heap.size w w' := by
  obtain ⟨i0, hi, hz0, hz1, hz2⟩ := info_parts info_u8
  go_enter Try.func32, Try.ntmps32
  go_wp2_with fail
  refine (put_any (.slice none 0 0) [] s.size w.heap.size w (by omega) (by simp) (Nat.le_refl _) (Own.nil _ _ _)).mono ?_
  rintro e w1 ⟨v, rfl, hown, hg, _⟩
  have hb := below_of_grown hg
  clear hg
  have hlen := enc_len s.size (by omega)
  have hown' : w1.ownsRow w.heap.size 5 1 v (enc s.size).length (cells (enc s.size)) := by have := hown; unfold Bs Own at this; rw [cells_length] at this; exact this
  have hsz := hb.size
  go_wp2_with (at_builtin; refine Lib.wpList_append_own_string _ rfl (.tmp 10) (.tmp 11) 22 9 rfl w.heap.size 5 i0 Try.underlying22 Try.underlying9 hi hz0 hz1 hz2 v (enc s.size).length (cells (enc s.size)) rfl hown' s rfl (by unfold maxLen; omega) (by omega) (by omega) ?_)
  intro v' w2 hown2 hg2 _
  have hown3 : Bs w2 w.heap.size v' (enc s.size ++ s.data.toList) := by
    unfold Bs Own
    rw [cells_length, List.length_append, cells_append]
    rw [strCells_eq] at hown2
    exact hown2
  have hb2 : Below w.heap.size w w2 := hb.grown hg2 hsz (fun k hk => (hown.lt k hk).1)
  clear hown2 hg2 hown hown' hb
  go_wp2
  go_ret2
  exact ⟨v', rfl, hown3, hb2⟩

/-- Numbers in bytes, one behind another. -/
def encs : List Int → List UInt8
  | [] => []
  | n :: r => enc (fold1 n) ++ encs r
theorem encs_snoc (l : List Int) (n : Int) : encs (l ++ [n]) = encs l ++ enc (fold1 n) := by
  induction l with
  | nil => simp [encs]
  | cons a r ih => simp [encs, ih]

set_option maxRecDepth 100000 in
theorem ints_long (A : Option Addr) (n c : Nat) (w : World) (h : 4096 < n) (h2 : n ≤ 9223372036854775807) :
    Calls Try.prog 36 #[.slice A n c] w fun e w' => e = .returned (.tuple #[.slice none 0 0, .int .i64 2]) ∧ w = w' := by
  go_enter Try.func36, Try.ntmps36
  go_wp2
  go_ret2
  exact ⟨rfl, rfl⟩

theorem encs_len (z : List Int) (hz : ∀ n ∈ z, -9223372036854775808 ≤ n ∧ n ≤ 9223372036854775807) : (encs z).length ≤ 10 * z.length := by
  induction z with
  | nil => simp [encs]
  | cons a r ih =>
    have h1 := ih (fun n hn => hz n (by simp [hn]))
    have h2 := enc_len (fold1 a) (fold1_lt a (hz a (by simp)))
    simp [encs]
    omega

set_option maxRecDepth 100000 in
theorem ints_ok (A : Option Addr) (z : List Int) (c : Nat) (w : World) (hr : Rd w w.heap.size A (z.map (Value.int .i64))) (hz : ∀ n ∈ z, -9223372036854775808 ≤ n ∧ n ≤ 9223372036854775807) (h : z.length ≤ 4096) :
    Calls Try.prog 36 #[.slice A z.length c] w fun e w' => ∃ v, e = .returned (.tuple #[v, .int .i64 0]) ∧ Bs w' w.heap.size v (enc z.length ++ encs z) ∧ Below w.heap.size w w' := by
  have HZ := Lib.hid hz
  clear hz
  go_enter Try.func36, Try.ntmps36
  go_wp2_with fail
  refine (put_any (.slice none 0 0) [] z.length w.heap.size w (by omega) (by simp) (Nat.le_refl _) (Own.nil _ _ _)).mono ?_
  rintro e w1 ⟨v, rfl, hown, hg, _⟩
  have hb := below_of_grown hg
  have hlen := enc_len z.length (by omega)
  rw [List.nil_append] at hown
  clear hg
  go_wp2_with fail
  go_loopw [4, 6, 16] (fun v x i wr => ∃ k : Nat, k ≤ z.length ∧ i = .int .i64 k ∧ Bs wr w.heap.size v (enc z.length ++ encs (z.take k)) ∧ Below w.heap.size w wr) (fun _ _ i _ => z.length - (intOf i).toNat)
  case atStart => exact ⟨0, by omega, rfl, by simpa [encs] using hown, hb⟩
  case round =>
    clear hown hb
    obtain ⟨k, hk, rfl, hown, hb⟩ := hrel
    by_cases hlt : k < z.length
    · obtain ⟨ad, rfl, hbk, hcell⟩ := rd_at hr hlt
      have hcw : wr.cell? (ad.add k) = some (.int .i64 z[k]) := (hb.cell (by rw [block_of_add]; exact hbk)).trans hcell
      have hzk := HZ.out z[k] (List.getElem_mem hlt)
      have HB := Lib.hid hzk
      have hts : z.take (k + 1) = z.take k ++ [z[k]] := by rw [List.take_succ_eq_append_getElem hlt]
      have HT := Lib.hid hts
      have hel := encs_len (z.take k) (fun n hn => HZ.out n (List.mem_of_mem_take hn))
      rw [List.length_take] at hel
      have hsz := hb.size
      have hfl := Lib.hid (fold1_lt _ hzk)
      clear hzk hts hcell
      generalize z[k] = x at *
      go_wp2_with fail
      refine (folded_any x HB.out _).mono ?_
      rintro e w2 ⟨rfl, rfl⟩
      go_wp2_with fail
      refine (put_any _ _ (fold1 x) w.heap.size wr hfl.out (by simp; omega) hsz hown).mono ?_
      rintro e w2 ⟨v', rfl, hown2, hg2, hf2⟩
      have hb2 : Below w.heap.size w w2 := hb.grown hg2 hsz (fun k hk => (hown.lt k hk).1)
      have hown3 : Bs w2 w.heap.size v' (enc z.length ++ encs (z.take (k + 1))) := by
        rw [HT.out, encs_snoc, ← List.append_assoc]
        exact hown2
      clear hown hb hg2 hf2 hown2
      go_wp2
      go_roundw
      case rel => exact ⟨k + 1, by omega, by go_num, hown3, hb2⟩
      case measure => simp [intOf]; omega
    · have hkl : z.take k = z := List.take_of_length_le (by omega)
      rw [hkl] at hown
      go_wp2
      go_ret2
      exact ⟨_, rfl, hown, hb⟩
end Go.Proofs.Ytelplpajpfkfiaa
