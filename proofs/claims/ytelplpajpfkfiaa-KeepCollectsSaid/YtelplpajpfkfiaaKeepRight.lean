/- Which pieces may be (keep.right, the reference's mayPiece). Condition: the piece's numbers are 64 bits wide. -/
import Derived.Test.YtelplpajpfkfiaaKeepInb
set_option linter.unusedVariables false
namespace Go.Proofs.Ytelplpajpfkfiaa
open Go.RowKit Oct

def pcV (i t n m : Int) (A : Option Addr) (k c : Nat) : Value := .agg #[.int .i64 i, .int .i64 t, .int .i64 n, .int .i64 m, .slice A k c]
theorem blk5_cells {w : World} {g : Nat} {t : TypeId} {a b c d e : Value} (h : Blk w g t #[a, b, c, d, e]) :
    w.cell? ⟨g, 0, none⟩ = some a ∧ w.cell? ⟨g, 1, none⟩ = some b ∧ w.cell? ⟨g, 2, none⟩ = some c ∧ w.cell? ⟨g, 3, none⟩ = some d ∧ w.cell? ⟨g, 4, none⟩ = some e :=
  ⟨h.cell 0, h.cell 1, h.cell 2, h.cell 3, h.cell 4⟩

set_option maxHeartbeats 2000000 in
set_option maxRecDepth 100000 in
theorem right_any (i t n m : Int) (A : Option Addr) (k c : Nat) (hi64 : -9223372036854775808 ≤ i ∧ i ≤ 9223372036854775807) (ht64 : -9223372036854775808 ≤ t ∧ t ≤ 9223372036854775807) (hn64 : -9223372036854775808 ≤ n ∧ n ≤ 9223372036854775807) (hm64 : -9223372036854775808 ≤ m ∧ m ≤ 9223372036854775807) (w : World) :
    Calls Try.prog 84 #[pcV i t n m A k c] w fun e w' => e = .returned (.bool (pcB i t n m k)) ∧ Below w.heap.size w w' := by
  unfold pcV
  have hK := Blk.new w 71 #[.int .i64 i, .int .i64 t, .int .i64 n, .int .i64 m, .slice A k c]
  obtain ⟨c0, c1, c2, c3, c4⟩ := blk5_cells hK
  have hK2 := hK.alloc (.cells #[.int .i64 i, .int .i64 t] 3)
  have hb0 := Lib.hid (((Below.refl w.heap.size w).alloc (Nat.le_refl _) (.cells #[.int .i64 i, .int .i64 t, .int .i64 n, .int .i64 m, .slice A k c] 71)).alloc (by simp) (.cells #[.int .i64 i, .int .i64 t] 3))
  have hsz : (w.alloc (.cells #[.int .i64 i, .int .i64 t, .int .i64 n, .int .i64 m, .slice A k c] 71)).heap.size = w.heap.size + 1 := by simp
  have hA := rd_two (w.alloc (.cells #[.int .i64 i, .int .i64 t, .int .i64 n, .int .i64 m, .slice A k c] 71)) 3 (.int .i64 i) (.int .i64 t)
  rw [hsz] at hA
  have HA := Lib.hid hA
  have HK2 := Lib.hid hK2
  clear hK hA hK2 hsz
  go_enter Try.func84, Try.ntmps84
  go_wp2_with fail
  refine (within_any _ [i, t] 2 2 _ rfl _ HA.out (by simp)).mono ?_
  rintro e w1 ⟨rfl, rfl⟩
  generalize hW1 : (w.alloc (.cells #[.int .i64 i, .int .i64 t, .int .i64 n, .int .i64 m, .slice A k c] 71)).alloc (.cells #[.int .i64 i, .int .i64 t] 3) = w1 at hb0 HK2 ⊢
  clear hW1 HA c0 c1 c2 c3 c4
  obtain ⟨c0, c1, c2, c3, c4⟩ := blk5_cells HK2.out
  rw [show (![i, t].any outB) = (!outB i && !outB t) by simp [List.any_cons, Bool.not_or]]
  cases hi : outB i
  · cases ht : outB t
    · clear hi64 ht64
      by_cases h0 : 1 ≤ m
      · skip
        by_cases h1 : m ≤ 4096
        · skip
          by_cases h2 : 0 ≤ n
          · skip
            by_cases h3 : n < m
            · skip
              rcases Nat.eq_zero_or_pos k with h4 | h4
              · subst h4
                have hp := Lib.hid (show pcB i t n m 0 = false from by rw [Bool.eq_false_iff]; intro h; have h9 := pcB_spec.1 h; simp only [outB_false] at h9; omega)
                clear hi ht
                go_wp2
                go_ret
                exact ⟨ret_bool hp.out.symm, hb0.out⟩
              · have h4I : (0 : Int) < k := by omega
                by_cases h5 : k = 400
                · subst h5
                  have hp := Lib.hid (show pcB i t n m 400 = true from pcB_spec.2 ⟨hi, ht, by omega, by omega, by omega, by omega, by omega, by omega⟩)
                  clear hi ht
                  go_wp2
                  go_ret
                  exact ⟨ret_bool hp.out.symm, hb0.out⟩
                · have h5I : ((k : Int) == 400) = false := by simpa using (by omega : (k : Int) ≠ 400)
                  by_cases h6 : k < 400
                  · have h6I : (k : Int) < 400 := by omega
                    by_cases h7 : n = m - 1
                    · have h7I : (n == m - 1) = true := by simpa using h7
                      have hp := Lib.hid (show pcB i t n m k = true from pcB_spec.2 ⟨hi, ht, by omega, by omega, by omega, by omega, by omega, by omega⟩)
                      clear h7
                      clear hi ht
                      go_wp2
                      go_ret
                      exact ⟨ret_bool hp.out.symm, hb0.out⟩
                    · have h7I : (n == m - 1) = false := by simpa using h7
                      have hp := Lib.hid (show pcB i t n m k = false from by rw [Bool.eq_false_iff]; intro h; have h9 := pcB_spec.1 h; simp only [outB_false] at h9; omega)
                      clear hi ht
                      go_wp2
                      go_ret
                      exact ⟨ret_bool hp.out.symm, hb0.out⟩
                  · have h6I : ¬ (k : Int) < 400 := by omega
                    have hp := Lib.hid (show pcB i t n m k = false from by rw [Bool.eq_false_iff]; intro h; have h9 := pcB_spec.1 h; simp only [outB_false] at h9; omega)
                    clear hi ht
                    go_wp2
                    go_ret
                    exact ⟨ret_bool hp.out.symm, hb0.out⟩
            · skip
              have hp := Lib.hid (show pcB i t n m k = false from by rw [Bool.eq_false_iff]; intro h; have h9 := pcB_spec.1 h; simp only [outB_false] at h9; omega)
              clear hi ht
              go_wp2
              go_ret
              exact ⟨ret_bool hp.out.symm, hb0.out⟩
          · skip
            have hp := Lib.hid (show pcB i t n m k = false from by rw [Bool.eq_false_iff]; intro h; have h9 := pcB_spec.1 h; simp only [outB_false] at h9; omega)
            clear hi ht
            go_wp2
            go_ret
            exact ⟨ret_bool hp.out.symm, hb0.out⟩
        · skip
          have hp := Lib.hid (show pcB i t n m k = false from by rw [Bool.eq_false_iff]; intro h; have h9 := pcB_spec.1 h; simp only [outB_false] at h9; omega)
          clear hi ht
          go_wp2
          go_ret
          exact ⟨ret_bool hp.out.symm, hb0.out⟩
      · skip
        have hp := Lib.hid (show pcB i t n m k = false from by rw [Bool.eq_false_iff]; intro h; have h9 := pcB_spec.1 h; simp only [outB_false] at h9; omega)
        clear hi ht
        go_wp2
        go_ret
        exact ⟨ret_bool hp.out.symm, hb0.out⟩
    · skip
      have hp := Lib.hid (show pcB i t n m k = false from by rw [Bool.eq_false_iff]; intro h; have h9 := pcB_spec.1 h; rw [ht] at h9; cases h9.2.1)
      clear hi ht
      go_wp2
      go_ret
      exact ⟨ret_bool hp.out.symm, hb0.out⟩
  · cases ht : outB t
    · skip
      have hp := Lib.hid (show pcB i t n m k = false from by rw [Bool.eq_false_iff]; intro h; have h9 := pcB_spec.1 h; rw [hi] at h9; cases h9.1)
      clear hi ht
      go_wp2
      go_ret
      exact ⟨ret_bool hp.out.symm, hb0.out⟩
    · skip
      have hp := Lib.hid (show pcB i t n m k = false from by rw [Bool.eq_false_iff]; intro h; have h9 := pcB_spec.1 h; rw [hi] at h9; cases h9.1)
      clear hi ht
      go_wp2
      go_ret
      exact ⟨ret_bool hp.out.symm, hb0.out⟩

set_option maxHeartbeats 2000000 in
set_option maxRecDepth 100000 in
theorem mayPiece_any (i t n m : Int) (A : Option Addr) (k c : Nat) (hm64 : -9223372036854775808 ≤ m ∧ m ≤ 9223372036854775807) (w : World) :
    Calls Try.prog 85 #[pcV i t n m A k c] w fun e w' => e = .returned (.bool (pcB i t n m k)) ∧ Below w.heap.size w w' := by
  unfold pcV
  have hK := Blk.new w 71 #[.int .i64 i, .int .i64 t, .int .i64 n, .int .i64 m, .slice A k c]
  obtain ⟨c0, c1, c2, c3, c4⟩ := blk5_cells hK
  have hb0 := Lib.hid ((Below.refl w.heap.size w).alloc (Nat.le_refl _) (.cells #[.int .i64 i, .int .i64 t, .int .i64 n, .int .i64 m, .slice A k c] 71))
  clear hK
  go_enter Try.func85, Try.ntmps85
  by_cases h0 : i < 0
  · skip
    have hp := Lib.hid (show pcB i t n m k = false from by rw [Bool.eq_false_iff]; intro h; have h9 := pcB_spec.1 h; simp only [outB_false] at h9; omega)
    go_wp2
    go_ret
    exact ⟨ret_bool hp.out.symm, hb0.out⟩
  · skip
    by_cases h1 : 1099511627776 < i
    · skip
      have hp := Lib.hid (show pcB i t n m k = false from by rw [Bool.eq_false_iff]; intro h; have h9 := pcB_spec.1 h; simp only [outB_false] at h9; omega)
      go_wp2
      go_ret
      exact ⟨ret_bool hp.out.symm, hb0.out⟩
    · skip
      by_cases h2 : t < 0
      · skip
        have hp := Lib.hid (show pcB i t n m k = false from by rw [Bool.eq_false_iff]; intro h; have h9 := pcB_spec.1 h; simp only [outB_false] at h9; omega)
        go_wp2
        go_ret
        exact ⟨ret_bool hp.out.symm, hb0.out⟩
      · skip
        by_cases h3 : 1099511627776 < t
        · skip
          have hp := Lib.hid (show pcB i t n m k = false from by rw [Bool.eq_false_iff]; intro h; have h9 := pcB_spec.1 h; simp only [outB_false] at h9; omega)
          go_wp2
          go_ret
          exact ⟨ret_bool hp.out.symm, hb0.out⟩
        · skip
          by_cases h4 : m < 1
          · skip
            have hp := Lib.hid (show pcB i t n m k = false from by rw [Bool.eq_false_iff]; intro h; have h9 := pcB_spec.1 h; simp only [outB_false] at h9; omega)
            go_wp2
            go_ret
            exact ⟨ret_bool hp.out.symm, hb0.out⟩
          · skip
            by_cases h5 : 4096 < m
            · skip
              have hp := Lib.hid (show pcB i t n m k = false from by rw [Bool.eq_false_iff]; intro h; have h9 := pcB_spec.1 h; simp only [outB_false] at h9; omega)
              go_wp2
              go_ret
              exact ⟨ret_bool hp.out.symm, hb0.out⟩
            · skip
              by_cases h6 : n < 0
              · skip
                have hp := Lib.hid (show pcB i t n m k = false from by rw [Bool.eq_false_iff]; intro h; have h9 := pcB_spec.1 h; simp only [outB_false] at h9; omega)
                go_wp2
                go_ret
                exact ⟨ret_bool hp.out.symm, hb0.out⟩
              · skip
                by_cases h7 : m ≤ n
                · skip
                  have hp := Lib.hid (show pcB i t n m k = false from by rw [Bool.eq_false_iff]; intro h; have h9 := pcB_spec.1 h; simp only [outB_false] at h9; omega)
                  go_wp2
                  go_ret
                  exact ⟨ret_bool hp.out.symm, hb0.out⟩
                · skip
                  rcases Nat.eq_zero_or_pos k with h10 | h10
                  · subst h10
                    have hp := Lib.hid (show pcB i t n m 0 = false from by rw [Bool.eq_false_iff]; intro h; have h9 := pcB_spec.1 h; simp only [outB_false] at h9; omega)
                    go_wp2
                    go_ret
                    exact ⟨ret_bool hp.out.symm, hb0.out⟩
                  · have h10I : (1 : Int) ≤ k := by omega
                    have h10J : (0 : Int) < k := by omega
                    by_cases h5 : k = 400
                    · subst h5
                      have hp := Lib.hid (show pcB i t n m 400 = true from pcB_spec.2 ⟨outB_false.2 (by omega), outB_false.2 (by omega), by omega, by omega, by omega, by omega, by omega, by omega⟩)
                      go_wp2
                      go_ret
                      exact ⟨ret_bool hp.out.symm, hb0.out⟩
                    · have h5I : ((k : Int) == 400) = false := by simpa using (by omega : (k : Int) ≠ 400)
                      by_cases h6 : k ≤ 400
                      · have h6I : (k : Int) ≤ 400 := by omega
                        by_cases h7 : n = m - 1
                        · have h7I : (n == m - 1) = true := by simpa using h7
                          have hp := Lib.hid (show pcB i t n m k = true from pcB_spec.2 ⟨outB_false.2 (by omega), outB_false.2 (by omega), by omega, by omega, by omega, by omega, by omega, by omega⟩)
                          clear h7
                          go_wp2
                          go_ret
                          exact ⟨ret_bool hp.out.symm, hb0.out⟩
                        · have h7I : (n == m - 1) = false := by simpa using h7
                          have hp := Lib.hid (show pcB i t n m k = false from by rw [Bool.eq_false_iff]; intro h; have h9 := pcB_spec.1 h; simp only [outB_false] at h9; omega)
                          go_wp2
                          go_ret
                          exact ⟨ret_bool hp.out.symm, hb0.out⟩
                      · have h6I : ¬ (k : Int) ≤ 400 := by omega
                        have hp := Lib.hid (show pcB i t n m k = false from by rw [Bool.eq_false_iff]; intro h; have h9 := pcB_spec.1 h; simp only [outB_false] at h9; omega)
                        go_wp2
                        go_ret
                        exact ⟨ret_bool hp.out.symm, hb0.out⟩
end Go.Proofs.Ytelplpajpfkfiaa
