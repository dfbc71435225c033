/- Plain laws of layer 1: what was written is taken, and what is taken was written so. No condition. -/
import Derived.Test.YtelplpajpfkfiaaOctSpec
set_option linter.unusedVariables false
namespace Go.Proofs.Ytelplpajpfkfiaa.Oct

theorem dig7_toNat (n : Nat) : (dig7 n).toNat = n % 128 + 128 := toNat_ofNat8 _ (by omega)
theorem low7_toNat (n : Nat) : (low7 n).toNat = n % 128 := toNat_ofNat8 _ (by omega)
theorem u8_ext {a b : UInt8} (h : a.toNat = b.toNat) : a = b := UInt8.toNat_inj.1 h

theorem tkc_go {m n i : Nat} {f : Bool} {c : UInt8} {r : List UInt8} (h1 : f = true → c.toNat ≠ 128) (h2 : n ≤ m / 128) (h3 : n = m / 128 → c.toNat % 128 ≤ m % 128) :
    tkc m f n i (c :: r) = if c.toNat < 128 then (n * 128 + c.toNat % 128, i + 1, 0) else tkc m false (n * 128 + c.toNat % 128) (i + 1) r := by
  rw [tkc, if_neg]
  simp only [Bool.or_eq_true, Bool.and_eq_true, decide_eq_true_eq, beq_iff_eq, not_or, not_and]
  refine ⟨⟨fun hf hc => h1 hf (by rw [hc]; rfl), by omega⟩, fun hn => by have := h3 hn; omega⟩

theorem tkc_digs (m : Nat) (r : List UInt8) (i : Nat) (N : Nat) : N ≠ 0 → N ≤ m / 128 → ∀ r, tkc m true 0 i (digs N ++ r) = tkc m false N (i + (digs N).length) r := by
  induction N using Nat.strongRecOn with
  | _ N ih =>
    intro h0 hm r
    rw [digs_pos N h0, List.append_assoc]
    have hc := dig7_toNat N
    by_cases h1 : N / 128 = 0
    · rw [h1, digs_zero]
      show tkc m true 0 i (dig7 N :: r) = _
      rw [tkc_go (by omega) (by omega) (by omega), if_neg (by omega)]
      have : 0 * 128 + (dig7 N).toNat % 128 = N := by omega
      rw [this]
      rfl
    · rw [ih (N / 128) (by omega) h1 (by omega)]
      show tkc m false (N / 128) (i + (digs (N / 128)).length) (dig7 N :: r) = _
      rw [tkc_go (by simp) (by omega) (by omega), if_neg (by omega)]
      have : N / 128 * 128 + (dig7 N).toNat % 128 = N := by omega
      rw [this, List.length_append]
      rfl

theorem cnt_enc {m n : Nat} (h : n ≤ m) (b : List UInt8) : cnt m (enc n ++ b) = (n, (enc n).length, 0) := by
  unfold cnt enc
  rw [List.append_assoc]
  have hc := low7_toNat n
  by_cases h0 : n / 128 = 0
  · rw [h0, digs_zero]
    show tkc m true 0 0 (low7 n :: b) = _
    rw [tkc_go (by omega) (by omega) (by omega), if_pos (by omega)]
    have : 0 * 128 + (low7 n).toNat % 128 = n := by omega
    rw [this]
    rfl
  · rw [tkc_digs m b 0 (n / 128) h0 (by omega)]
    show tkc m false (n / 128) (0 + (digs (n / 128)).length) (low7 n :: b) = _
    rw [tkc_go (by simp) (by omega) (by omega), if_pos (by omega)]
    have : n / 128 * 128 + (low7 n).toNat % 128 = n := by omega
    rw [this]
    simp

theorem tkc_form (m : Nat) (l : List UInt8) : ∀ (f : Bool) (n i : Nat) (v u : Nat), (f = true ∧ n = 0) ∨ (f = false ∧ n ≠ 0) → tkc m f n i l = (v, u, 0) → i < u ∧ u - i ≤ l.length ∧ digs n ++ l.take (u - i) = enc v := by
  induction l with
  | nil => intro f n i v u _ h; simp [tkc] at h
  | cons c r ih =>
    intro f n i v u hf h
    rw [tkc] at h
    split at h
    · simp at h
    · rename_i hb
      simp only [Bool.or_eq_true, Bool.and_eq_true, decide_eq_true_eq, beq_iff_eq, not_or, not_and] at hb
      have hcl := c.toNat_lt
      split at h
      · rename_i hc
        simp only [Prod.mk.injEq] at h
        obtain ⟨rfl, rfl, _⟩ := h
        refine ⟨by omega, by simp, ?_⟩
        rw [show i + 1 - i = 1 by omega]
        unfold enc
        have h1 : (n * 128 + c.toNat % 128) / 128 = n := by omega
        rw [h1]
        congr 1
        show [c] = _
        congr 1
        apply u8_ext
        rw [low7_toNat]
        omega
      · rename_i hc
        have hn' : n * 128 + c.toNat % 128 ≠ 0 := by
          rcases hf with ⟨rfl, rfl⟩ | ⟨_, hn⟩
          · have h1 := hb.1.1 rfl
            intro h2
            apply h1
            apply u8_ext
            show c.toNat = 128
            omega
          · omega
        obtain ⟨h1, h2, h3⟩ := ih false _ (i + 1) v u (.inr ⟨rfl, hn'⟩) h
        refine ⟨by omega, by simp; omega, ?_⟩
        rw [digs_pos _ hn', show (n * 128 + c.toNat % 128) / 128 = n by omega, List.append_assoc] at h3
        have hd : dig7 (n * 128 + c.toNat % 128) = c := by
          apply u8_ext
          rw [dig7_toNat]
          omega
        rw [hd] at h3
        rw [show u - i = (u - (i + 1)) + 1 by omega, List.take_succ_cons]
        exact h3

theorem cnt_form {m : Nat} {l : List UInt8} (h : (cnt m l).2.2 = 0) : 0 < (cnt m l).2.1 ∧ (cnt m l).2.1 ≤ l.length ∧ l.take (cnt m l).2.1 = enc (cnt m l).1 := by
  have := tkc_form m l true 0 0 (cnt m l).1 (cnt m l).2.1 (.inl ⟨rfl, rfl⟩) (by
    show cnt m l = _
    rw [← h])
  rw [digs_zero] at this
  simpa using this

theorem unfold_fold (n : Int) : unfold1 (fold1 n) = n := by
  unfold fold1
  split <;> unfold unfold1 <;> split <;> omega
theorem fold_unfold (u : Nat) : fold1 (unfold1 u) = u := by
  unfold unfold1
  split <;> unfold fold1 <;> split <;> omega
end Go.Proofs.Ytelplpajpfkfiaa.Oct
