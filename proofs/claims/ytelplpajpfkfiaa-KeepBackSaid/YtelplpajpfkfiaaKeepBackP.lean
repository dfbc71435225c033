/- The pieces of a snapshot, put one behind another, are it: in plain words. Condition: the snapshot may be, its numbers are 64 bits wide. -/
import Derived.Test.YtelplpajpfkfiaaKeepPut
set_option linter.unusedVariables false
namespace Go.Proofs.Ytelplpajpfkfiaa
open Go.RowKit Oct

theorem snapW_read {i t : Int} {z : List Int} {l : List UInt8} (hm : mayB i t z l = true) (hz : ∀ n ∈ z, -9223372036854775808 ≤ n ∧ n ≤ 9223372036854775807) :
    readB (snapW i t z l) = true ∧ rI (snapW i t z l) = i ∧ rT (snapW i t z l) = t ∧ rZ (snapW i t z l) = z ∧ rD (snapW i t z l) = l := by
  have h := may_len hm
  have h1 : takeU maxU (snapW i t z l) = (fold1 i, (enc (fold1 i)).length, 0) := takeU_enc (by have := fold1_lt i (by omega); unfold maxU; omega) _
  have h2 : rB1 (snapW i t z l) = enc (fold1 t) ++ (encZ z ++ l) := by unfold rB1; rw [h1]; unfold snapW; simp
  have h3 : takeU maxU (rB1 (snapW i t z l)) = (fold1 t, (enc (fold1 t)).length, 0) := by rw [h2]; exact takeU_enc (by have := fold1_lt t (by omega); unfold maxU; omega) _
  have h4 : rB2 (snapW i t z l) = encZ z ++ l := by unfold rB2; rw [h3, h2]; simp
  have h5 : takeZ (rB2 (snapW i t z l)) = (z, (encZ z).length, 0) := by
    rw [h4]
    unfold encZ
    rw [if_neg (by omega)]
    exact takeZ_enc z hz l (by omega)
  have e1 : rI (snapW i t z l) = i := by unfold rI; rw [h1]; exact unfold_fold i
  have e2 : rT (snapW i t z l) = t := by unfold rT; rw [h3]; exact unfold_fold t
  have e3 : rZ (snapW i t z l) = z := by unfold rZ; rw [h5]
  have e4 : rD (snapW i t z l) = l := by unfold rD; rw [h5, h4]; simp
  refine ⟨?_, e1, e2, e3, e4⟩
  unfold readB
  rw [e1, e2, e3, e4, hm, h1, h3, h5]
  rfl
theorem snapS_read {i t : Int} {z : List Int} {l : List UInt8} (hm : mayB i t z l = true) (hz : ∀ n ∈ z, -9223372036854775808 ≤ n ∧ n ≤ 9223372036854775807) :
    oE (snapS i t z l) = 0 ∧ oI (snapS i t z l) = i ∧ oT (snapS i t z l) = t ∧ oZ (snapS i t z l) = z ∧ oD (snapS i t z l) = l ∧ sameB (snapS i t z l) i t = true := by
  obtain ⟨h0, h1, h2, h3, h4⟩ := snapW_read hm hz
  have hs : snapS i t z l = snapW i t z l := if_pos hm
  rw [hs]
  simp [oE, oI, oT, oZ, oD, sameB, h0, h1, h2, h3, h4]
theorem enc_pos (n : Nat) : 0 < (enc n).length := by
  rw [enc]
  simp
theorem snapS_pos {i t : Int} {z : List Int} {l : List UInt8} (hm : mayB i t z l = true) : 0 < (snapS i t z l).length := by
  rw [show snapS i t z l = snapW i t z l from if_pos hm]
  unfold snapW
  have := enc_pos (fold1 i)
  simp only [List.length_append]
  omega
/-- The inbox when k pieces have come. -/
def backS (s0 : Inb) (i t : Int) (L : List UInt8) (k : Nat) : Inb :=
  if k = 0 then s0 else if k < (chunksL L).length then ⟨i, t, ((chunksL L).length : Int), k, L.take (400 * k)⟩ else inb0
theorem chunksL_get (L : List UInt8) (k : Nat) (hk : k < (chunksL L).length) : (chunksL L)[k] = ckL L k := by simp [chunksL]
theorem back_step {s0 : Inb} {i t : Int} {L : List UInt8} (hi : 0 ≤ i ∧ i ≤ 1099511627776) (ht : 0 ≤ t ∧ t ≤ 1099511627776) (hL : L.length ≤ 1052000) (hs : sameB L i t = true) {k : Nat} (hk : k < (chunksL L).length) :
    okB (backS s0 i t L k) i t k (chunksL L).length (ckL L k) = true ∧ putE (backS s0 i t L k) i t k (chunksL L).length (ckL L k) = 0 ∧
    endB (backS s0 i t L k) i t k (chunksL L).length (ckL L k) = decide (k + 1 = (chunksL L).length) ∧
    putS (backS s0 i t L k) i t k (chunksL L).length (ckL L k) = backS s0 i t L (k + 1) ∧
    (k + 1 = (chunksL L).length → putB (backS s0 i t L k) k (ckL L k) = L) := by
  have hn : (chunksL L).length = (L.length + 399) / 400 := chunksL_length L
  have hkl : 400 * k < L.length := by omega
  have hcl : (ckL L k).length = ckEnd L.length k - 400 * k := ckL_length
  have hce : ckEnd L.length k = min (400 * k + 400) L.length := rfl
  have hp : pcB i t k (chunksL L).length (ckL L k).length = true := pcB_spec.2 ⟨outB_false.2 hi, outB_false.2 ht, by omega, by omega, by omega, by omega, by omega, by omega⟩
  have hok : okB (backS s0 i t L k) i t k (chunksL L).length (ckL L k) = true := by
    unfold okB
    rw [hp, Bool.true_and]
    by_cases h0 : k = 0
    · subst h0; rfl
    · unfold backS fitB
      rw [if_neg h0, if_pos hk]
      simp
  have hpb : putB (backS s0 i t L k) k (ckL L k) = L.take (400 * (k + 1)) := by
    unfold putB
    have hcat : L.take (400 * k) ++ ckL L k = L.take (400 * (k + 1)) := by
      unfold ckL
      rw [hce]
      have h2 : L.take (min (400 * k + 400) L.length) = L.take (400 * (k + 1)) := by
        rcases Nat.le_total (400 * k + 400) L.length with h | h
        · rw [Nat.min_eq_left h]; rfl
        · rw [Nat.min_eq_right h, List.take_of_length_le (Nat.le_refl _), List.take_of_length_le (by omega)]
      rw [h2]
      have h3 : L.take (400 * k) = (L.take (400 * (k + 1))).take (400 * k) := by rw [List.take_take, Nat.min_eq_left (by omega)]
      rw [h3]
      exact List.take_append_drop _ _
    by_cases h0 : k = 0
    · subst h0
      rw [← hcat]
      simp
    · rw [if_neg (by omega)]
      unfold backS
      rw [if_neg h0, if_pos hk]
      exact hcat
  by_cases hlast : k + 1 = (chunksL L).length
  · have hfull : L.take (400 * (k + 1)) = L := List.take_of_length_le (by omega)
    rw [hfull] at hpb
    have hend := put_end hok hpb (by omega)
    refine ⟨hok, ?_, ?_, ?_, fun _ => hpb⟩
    · rw [hend.2.1, hs, if_pos rfl]
    · rw [hend.1, hs, decide_eq_true hlast]
    · rw [hend.2.2]
      unfold backS
      rw [if_neg (by omega), if_neg (by omega)]
  · have hmore := put_more hok hpb (by omega)
    refine ⟨hok, hmore.2.1, ?_, ?_, fun h => absurd h hlast⟩
    · rw [hmore.1, decide_eq_false hlast]
    · rw [hmore.2.2]
      unfold backS
      rw [if_neg (by omega), if_pos (by omega)]
      rfl
end Go.Proofs.Ytelplpajpfkfiaa
