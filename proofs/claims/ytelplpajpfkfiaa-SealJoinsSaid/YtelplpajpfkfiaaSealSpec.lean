/- What layer 2 answers, in plain words. No condition. -/
import Derived.Test.YtelplpajpfkfiaaOctPlain2
import Derived.Test.YtelplpajpfkfiaaCrc
set_option linter.unusedVariables false
namespace Go.Proofs.Ytelplpajpfkfiaa
open Oct

/-- A piece: a length, the bytes, the check sum of both. -/
def head (p : List UInt8) : List UInt8 := enc p.length ++ p
def piece (p : List UInt8) : List UInt8 := head p ++ Crc.four (Crc.sum (head p))
def closeS (p : List UInt8) : List UInt8 := if 1048576 < p.length then [] else piece p
def closeE (p : List UInt8) : Int := if 1048576 < p.length then 2 else 0
/-- How far the sum reaches. -/
def endS (b : List UInt8) : Nat := (takeU maxI b).2.1 + (takeU maxI b).1
/-- What Open answers. -/
def openS (b : List UInt8) : List UInt8 × Nat × Int :=
  if (takeU maxI b).2.2 ≠ 0 then ([], 0, (takeU maxI b).2.2)
  else if 1048576 < (takeU maxI b).1 then ([], 0, 2)
  else if b.length < endS b + 4 then ([], 0, 3)
  else if Crc.four (Crc.sum (b.take (endS b))) = (b.drop (endS b)).take 4 then ((b.drop (takeU maxI b).2.1).take (takeU maxI b).1, endS b + 4, 0)
  else ([], 0, 5)
/-- What Rows answers: f: how many pieces at most. -/
def rowsF (b : List UInt8) : Nat → Nat → List (List UInt8) × Nat × Int
  | 0, a => ([], a, 0)
  | f + 1, a =>
    if b.length ≤ a then ([], a, 0)
    else if (openS (b.drop a)).2.2 = 0 then
      ((openS (b.drop a)).1 :: (rowsF b f (a + (openS (b.drop a)).2.1)).1, (rowsF b f (a + (openS (b.drop a)).2.1)).2)
    else ([], a, (openS (b.drop a)).2.2)
def rowsS (b : List UInt8) : List (List UInt8) × Nat × Int := rowsF b (b.length + 1) 0

theorem head_pos (p : List UInt8) : 0 < (head p).length := by
  unfold head
  have := enc_pos p.length
  simp
  omega
theorem piece_length (p : List UInt8) : (piece p).length = (enc p.length).length + p.length + 4 := by
  simp [piece, head, Crc.four_length]
  omega
theorem piece_le (p : List UInt8) : p.length + 5 ≤ (piece p).length := by
  rw [piece_length]
  have := enc_pos p.length
  omega
/-- What was closed is opened. -/
theorem open_piece (p b : List UInt8) (h : p.length ≤ 1048576) : openS (piece p ++ b) = (p, (piece p).length, 0) := by
  have ht : takeU maxI (piece p ++ b) = (p.length, (enc p.length).length, 0) := by
    unfold piece head
    rw [List.append_assoc, List.append_assoc]
    exact takeU_enc (by unfold maxI; omega) _
  have he : endS (piece p ++ b) = (head p).length := by
    unfold endS
    rw [ht]
    simp [head]
  have hp := piece_length p
  have hh : (head p).length = (enc p.length).length + p.length := by simp [head]
  unfold openS
  rw [he, ht]
  rw [if_neg (by simp), if_neg (by simp; omega), if_neg (by rw [List.length_append]; omega)]
  have h1 : (piece p ++ b).take (head p).length = head p := by
    unfold piece
    rw [List.append_assoc, List.take_left]
  have h2 : ((piece p ++ b).drop (head p).length).take 4 = Crc.four (Crc.sum (head p)) := by
    unfold piece
    rw [List.append_assoc, List.drop_left, ← Crc.four_length (Crc.sum (head p)), List.take_left]
  have h3 : ((piece p ++ b).drop (enc p.length).length).take p.length = p := by
    unfold piece head
    rw [List.append_assoc, List.append_assoc, List.drop_left, List.take_left]
  rw [h1, h2, if_pos rfl]
  simp only
  rw [h3]
  congr 2
  omega
/-- What is opened was closed so. -/
theorem open_form {b : List UInt8} (h : (openS b).2.2 = 0) : (openS b).1.length ≤ 1048576 ∧ 5 ≤ (openS b).2.1 ∧ (openS b).2.1 ≤ b.length ∧ b.take (openS b).2.1 = piece (openS b).1 := by
  unfold openS at h ⊢
  by_cases h1 : (takeU maxI b).2.2 ≠ 0
  · rw [if_pos h1] at h
    exact absurd h h1
  · rw [if_neg h1] at h ⊢
    by_cases h2 : 1048576 < (takeU maxI b).1
    · rw [if_pos h2] at h
      cases h
    · rw [if_neg h2] at h ⊢
      by_cases h3 : b.length < endS b + 4
      · rw [if_pos h3] at h
        cases h
      · rw [if_neg h3] at h ⊢
        by_cases h4 : Crc.four (Crc.sum (b.take (endS b))) = (b.drop (endS b)).take 4
        · rw [if_pos h4]
          have h1' : (takeU maxI b).2.2 = 0 := Classical.not_not.1 h1
          have hf := cnt_form (m := maxI) (l := b) h1'
          rw [← takeU_at h1'] at hf
          obtain ⟨f1, f2, f3⟩ := hf
          have f3' : b.take (takeU maxI b).2.1 = enc (takeU maxI b).1 := f3
          have hlen : ((b.drop (takeU maxI b).2.1).take (takeU maxI b).1).length = (takeU maxI b).1 := by
            unfold endS at h3
            simp
            omega
          have hh : b.take (endS b) = head ((b.drop (takeU maxI b).2.1).take (takeU maxI b).1) := by
            unfold head
            rw [hlen, ← f3']
            unfold endS
            rw [List.take_add]
          refine ⟨by simp only; rw [hlen]; omega, by simp only; unfold endS; omega, by simp only; omega, ?_⟩
          show b.take (endS b + 4) = piece _
          unfold piece
          rw [← hh, List.take_add, ← h4]
        · rw [if_neg h4] at h
          cases h
end Go.Proofs.Ytelplpajpfkfiaa
