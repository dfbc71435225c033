/- Plain laws of layer 1, texts and rows: what was written is taken, and what is taken was written so. No condition. -/
import Derived.Test.YtelplpajpfkfiaaOctPlain
import Derived.Test.YtelplpajpfkfiaaTot
set_option linter.unusedVariables false
namespace Go.Proofs.Ytelplpajpfkfiaa
open Go.RowKit Oct

theorem takeU_enc {m n : Nat} (h : n ≤ m) (b : List UInt8) : takeU m (enc n ++ b) = (n, (enc n).length, 0) := by
  unfold takeU
  rw [cnt_enc h]
  rfl
theorem lenOf_enc {m n : Nat} (h : n ≤ m) (hm : m ≤ maxI) (b : List UInt8) : lenOf m (enc n ++ b) = (n, 0) := by
  unfold lenOf
  rw [cnt_enc (by omega)]
  rw [if_pos rfl, if_neg (by show ¬ m < n; omega)]
theorem takeT_enc (s b : List UInt8) (h : s.length ≤ 65535) : takeT (enc s.length ++ s ++ b) = (s, (enc s.length ++ s).length, 0) := by
  rw [List.append_assoc]
  unfold takeT
  rw [lenOf_enc h (by unfold maxI; omega), if_pos rfl, cnt_enc (by unfold maxI; omega)]
  show (if (enc s.length ++ (s ++ b)).length - (enc s.length).length < s.length then _ else _) = _
  rw [if_neg (by simp only [List.length_append]; omega)]
  show (List.take s.length (List.drop (enc s.length).length (enc s.length ++ (s ++ b))), (enc s.length).length + s.length, (0 : Int)) = _
  rw [List.drop_left, List.take_left, List.length_append]
theorem tz_encs (b : List UInt8) (z : List Int) (hz : ∀ n ∈ z, -9223372036854775808 ≤ n ∧ n ≤ 9223372036854775807) : ∀ (L : List UInt8) (a : Nat) (acc : List Int), L.drop a = encs z ++ b → tz L z.length a acc = (acc ++ z, a + (encs z).length, 0) := by
  induction z with
  | nil => intro L a acc _; simp [tz, encs]
  | cons x r ih =>
    intro L a acc h
    have hx := fold1_lt x (hz x (by simp))
    have hc : cnt maxU (L.drop a) = (fold1 x, (enc (fold1 x)).length, 0) := by
      rw [h, encs, List.append_assoc]
      exact cnt_enc (by unfold maxU; omega) _
    rw [List.length_cons, tz, hc, if_pos rfl]
    have hd : L.drop (a + (enc (fold1 x)).length) = encs r ++ b := by
      rw [← List.drop_drop, h, encs, List.append_assoc, List.drop_left]
    rw [ih (fun n hn => hz n (by simp [hn])) L _ _ hd, unfold_fold]
    simp [encs]
    omega
theorem takeZ_enc (z : List Int) (hz : ∀ n ∈ z, -9223372036854775808 ≤ n ∧ n ≤ 9223372036854775807) (b : List UInt8) (h : z.length ≤ 4096) : takeZ (enc z.length ++ encs z ++ b) = (z, (enc z.length ++ encs z).length, 0) := by
  rw [List.append_assoc]
  unfold takeZ
  rw [lenOf_enc h (by unfold maxI; omega), if_pos rfl, cnt_enc (by unfold maxI; omega)]
  show tz _ z.length (enc z.length).length [] = _
  rw [tz_encs b z hz _ _ _ (by rw [List.drop_left])]
  simp

theorem lenOf_form {m : Nat} {l : List UInt8} (h : (lenOf m l).2 = 0) : (cnt maxI l).2.2 = 0 ∧ (lenOf m l).1 = (cnt maxI l).1 ∧ (cnt maxI l).1 ≤ m := by
  unfold lenOf at h ⊢
  by_cases h1 : (cnt maxI l).2.2 = 0
  · rw [if_pos h1] at h ⊢
    by_cases h2 : m < (cnt maxI l).1
    · rw [if_pos h2] at h
      cases h
    · rw [if_neg h2]
      exact ⟨h1, rfl, by omega⟩
  · rw [if_neg h1] at h
    exact absurd h h1
theorem takeT_form {l : List UInt8} (h : (takeT l).2.2 = 0) : (takeT l).2.1 ≤ l.length ∧ l.take (takeT l).2.1 = enc (takeT l).1.length ++ (takeT l).1 ∧ (takeT l).1.length ≤ 65535 := by
  unfold takeT at h ⊢
  by_cases h1 : (lenOf 65535 l).2 = 0
  · rw [if_pos h1] at h ⊢
    by_cases h2 : l.length - (cnt maxI l).2.1 < (lenOf 65535 l).1
    · rw [if_pos h2] at h
      cases h
    · rw [if_neg h2]
      obtain ⟨g1, g2, g3⟩ := lenOf_form h1
      obtain ⟨f1, f2, f3⟩ := cnt_form g1
      show (cnt maxI l).2.1 + (lenOf 65535 l).1 ≤ l.length ∧ l.take ((cnt maxI l).2.1 + (lenOf 65535 l).1) = enc ((l.drop (cnt maxI l).2.1).take (lenOf 65535 l).1).length ++ (l.drop (cnt maxI l).2.1).take (lenOf 65535 l).1 ∧ ((l.drop (cnt maxI l).2.1).take (lenOf 65535 l).1).length ≤ 65535
      have hlen : ((l.drop (cnt maxI l).2.1).take (lenOf 65535 l).1).length = (lenOf 65535 l).1 := by simp; omega
      rw [hlen, g2, ← f3, g2.symm]
      refine ⟨by omega, ?_, by omega⟩
      rw [List.take_add]
  · rw [if_neg h1] at h
    exact absurd h h1
theorem tz_form (l : List UInt8) : ∀ (n a : Nat) (acc z : List Int) (u : Nat), tz l n a acc = (z, u, 0) → a ≤ l.length → ∃ z', z = acc ++ z' ∧ z'.length = n ∧ a ≤ u ∧ u ≤ l.length ∧ (l.drop a).take (u - a) = encs z' ∧ ∀ x ∈ z', -9223372036854775808 ≤ x ∧ x ≤ 9223372036854775807 := by
  intro n
  induction n with
  | zero =>
    intro a acc z u h ha
    simp only [tz, Prod.mk.injEq] at h
    obtain ⟨rfl, rfl, _⟩ := h
    exact ⟨[], by simp, rfl, Nat.le_refl _, ha, by simp [encs], by simp⟩
  | succ n ih =>
    intro a acc z u h ha
    rw [tz] at h
    split at h
    · rename_i he
      obtain ⟨f1, f2, f3⟩ := cnt_form he
      rw [List.length_drop] at f2
      obtain ⟨z', rfl, h2, h3, h4, h5, h6⟩ := ih _ _ _ _ h (by omega)
      have hle : (cnt maxU (l.drop a)).1 ≤ 18446744073709551615 := cnt_le maxU (l.drop a)
      refine ⟨unfold1 (cnt maxU (l.drop a)).1 :: z', by simp, by simp [h2], by omega, h4, ?_, ?_⟩
      · rw [encs, fold_unfold, ← f3, ← h5, show u - a = (cnt maxU (l.drop a)).2.1 + (u - (a + (cnt maxU (l.drop a)).2.1)) by omega, List.take_add, List.drop_drop]
      · intro x hx
        rcases List.mem_cons.1 hx with rfl | hx
        · unfold unfold1
          split <;> omega
        · exact h6 x hx
    · rename_i he
      simp only [Prod.mk.injEq] at h
      exact absurd h.2.2 he
theorem takeZ_form {l : List UInt8} (h : (takeZ l).2.2 = 0) : (takeZ l).2.1 ≤ l.length ∧ l.take (takeZ l).2.1 = enc (takeZ l).1.length ++ encs (takeZ l).1 ∧ (takeZ l).1.length ≤ 4096 ∧ ∀ x ∈ (takeZ l).1, -9223372036854775808 ≤ x ∧ x ≤ 9223372036854775807 := by
  by_cases h1 : (lenOf 4096 l).2 = 0
  · have hz : takeZ l = tz l (lenOf 4096 l).1 (cnt maxI l).2.1 [] := if_pos h1
    obtain ⟨g1, g2, g3⟩ := lenOf_form h1
    obtain ⟨f1, f2, f3⟩ := cnt_form g1
    obtain ⟨z', h2, h3, h4, h5, h6, h7⟩ := tz_form l _ _ _ (takeZ l).1 (takeZ l).2.1 (by rw [← hz, ← h]) f2
    rw [List.nil_append] at h2
    rw [h2, h3]
    refine ⟨h5, ?_, by omega, h7⟩
    rw [← h6, g2, ← f3, show (takeZ l).2.1 = (cnt maxI l).2.1 + ((takeZ l).2.1 - (cnt maxI l).2.1) by omega, List.take_add]
    congr 2
    omega
  · have hz : takeZ l = ([], 0, (lenOf 4096 l).2) := if_neg h1
    rw [hz] at h
    exact absurd h h1
end Go.Proofs.Ytelplpajpfkfiaa
