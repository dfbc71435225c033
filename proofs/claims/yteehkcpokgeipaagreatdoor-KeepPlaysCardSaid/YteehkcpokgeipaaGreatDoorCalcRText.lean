/- The reference of layer 3: Text. Condition: the number is an int. -/
import Derived.Test.YteehkcpokgeipaaGreatDoorCalcDo
import Derived.Test.YteehkcpokgeipaaGreatDoorCalcSmall
import Derived.Test.YteehkcpokgeipaaGreatDoorCalcPlain
import Derived.Test.YteehkcpokgeipaaGreatDoorMem
import Derived.Deep.RegionHeld3
import Derived.Deep.RegionWith
import Derived.BigQuiet
import Derived.Laws.Concat
import Derived.Outline
set_option linter.unusedVariables false
namespace Go.Proofs.YteehkcpokgeipaaGreatDoor
open Go.RowKit Oct
theorem dgs_step (u : Nat) (h : u ≠ 0) : dgs u = dgs (u / 10) ++ [UInt8.ofNat (48 + u % 10)] := by
 unfold dgs
 rw [if_neg h]
 rw [Lib.decDigits]
 by_cases h1 : u < 10
 ·rw [dif_pos h1, if_pos (by omega), Nat.mod_eq_of_lt h1]
  rfl
 ·rw [dif_neg h1, if_neg (by omega)]
theorem rd_byte (w : World) (c : UInt8) : Rd (w.alloc (.cells #[.int .u8 (c.toNat : Int)] 5)) (w.heap.size + 1) (some ⟨w.heap.size, 0, none⟩) (cells [c]) := by
 intro _
 refine ⟨_, rfl, by simp, fun j u hu => ?_⟩
 rw [show (⟨w.heap.size, 0, none⟩ : Addr).add j = ⟨w.heap.size, j, none⟩ by simp [Addr.add_lit]]
 rw [cell_of_row _ w.heap.size j #[.int .u8 (c.toNat : Int)] 5 (0, 0) (heap_alloc_new w _)]
 simpa [cells] using hu
theorem dec_len (u : Nat) : (Lib.decDigits u).length ≤ u + 1 := by
 induction u using Nat.strongRecOn with
 | ind u ih =>
  unfold Lib.decDigits
  by_cases h : u < 10
  ·rw [dif_pos h]
   simp
  ·rw [dif_neg h]
   have := ih (u / 10) (by omega)
   simp
   omega
theorem dgs_len (u : Nat) : (dgs u).length ≤ u + 1 := by
 unfold dgs
 split
 ·simp
 ·exact dec_len u
theorem dec_short (k : Nat) : ∀ u, u < 10 ^ (k + 1) → (Lib.decDigits u).length ≤ k + 1 := by
 induction k with
 | zero =>
  intro u h
  unfold Lib.decDigits
  rw [dif_pos (by simpa using h)]
  simp
 | succ k ih =>
  intro u h
  unfold Lib.decDigits
  by_cases h1 : u < 10
  ·rw [dif_pos h1]
   simp
  ·rw [dif_neg h1]
   have := ih (u / 10) (by rw [Nat.pow_succ] at h; omega)
   simp
   omega
theorem dgs_short (u : Nat) (h : u < 18446744073709551616) : (dgs u).length ≤ 20 := by
 unfold dgs
 split
 ·simp
 ·exact dec_short 19 u (by omega)
theorem str_append (a b : List UInt8) : str (a ++ b) = str a ++ str b := (ByteArray.mk_append_mk a b).symm
theorem below_of_drew {B : Nat} {w w' : World} (h : Below B w.drew w') : Below B w w' := ⟨h.os, h.tape, h.output, h.size, h.block⟩
theorem conv_now (w : World) (n : Nat) (hn : n = w.heap.size) (c : UInt8) (X : Int) (hX : X = (c.toNat : Int)) : (convert 27 9 (.slice (some ⟨n, 0, none⟩) 1 1)).run Tryz.prog (w.alloc (.cells #[.int .u8 X] 5)) = .ok (.string (str [c])) (w.alloc (.cells #[.int .u8 X] 5)) := by
 subst hX; subst hn
 exact run_str 27 9 5 Tryz.underlying27 Tryz.underlying5 Tryz.underlying9 1 1 rfl (rd_byte w c)
theorem conv_drew (w : World) (c : UInt8) (X : Int) (hX : X = (c.toNat : Int)) : (convert 27 9 (.slice (some ⟨w.heap.size, 0, none⟩) 1 1)).run Tryz.prog (w.alloc (.cells #[.int .u8 X] 5)).drew = .ok (.string (str [c])) (w.alloc (.cells #[.int .u8 X] 5)).drew := by
 subst hX
 exact run_str 27 9 5 Tryz.underlying27 Tryz.underlying5 Tryz.underlying9 1 1 rfl ((rd_byte w c).keep fun _ _ => rfl)
theorem conv_later {w w1 : World} {B : Nat} (c : UInt8) (X : Int) (hX : X = (c.toNat : Int)) (hb : Below B (w.alloc (.cells #[.int .u8 X] 5)).drew w1) (hB : w.heap.size + 1 ≤ B) : (convert 27 9 (.slice (some ⟨w.heap.size, 0, none⟩) 1 1)).run Tryz.prog w1 = .ok (.string (str [c])) w1 := by
 subst hX
 have h1 : Rd (w.alloc (.cells #[.int .u8 (c.toNat : Int)] 5)).drew (w.heap.size + 1) (some ⟨w.heap.size, 0, none⟩) (cells [c]) := (rd_byte w c).keep fun _ _ => rfl
 exact run_str 27 9 5 Tryz.underlying27 Tryz.underlying5 Tryz.underlying9 1 1 rfl (h1.below (hb.mono hB))
set_option maxHeartbeats 1000000 in
set_option maxRecDepth 100000 in
theorem digits3_any (k : Nat) : ∀ (u : Nat) (U : Int) (w : World), U = (u : Int) → u < k → u < 18446744073709551616 →
  Calls Tryz.prog 155 #[.int .u64 U] w fun e w' => e = .returned (.string (str (dgs u))) ∧ Below w.heap.size w w' := by
 induction k with
 | zero => intro u U w _ h; omega
 | succ k ih =>
  intro u U w hU hk hu
  subst hU
  by_cases h0 : u = 0
  ·subst h0
   have e : dgs 0 = [] := rfl
   rw [e]
   clear e
   go_enter Tryz.func155, Tryz.ntmps155
   go_wp2
   go_ret
   exact ⟨rfl, Below.refl _ _⟩
  ·have HS := Lib.hid (dgs_step u h0)
   have d0 : ((u : Int) == 0) = false := beq_eq_false_iff_ne.2 (by omega)
   have hu0 : 1 ≤ u := by omega
   have IH := Lib.hid (ih (u / 10))
   clear ih h0
   go_enter Tryz.func155, Tryz.ntmps155
   have uw : ∀ x : Int, 0 ≤ x → x < 18446744073709551616 → IntKind.u64.wrap x = x := fun x h1 h2 => by
    simp [IntKind.wrap, IntKind.bits, IntKind.signed]
    omega
   have z1 := uw ((u : Int) / 10) (by omega) (by omega)
   have z2 := uw ((u : Int) % 10) (by omega) (by omega)
   have z3 := uw (48 + (u : Int) % 10) (by omega) (by omega)
   have z4 : IntKind.u8.wrap (48 + (u : Int) % 10) = 48 + (u : Int) % 10 := by
    simp [IntKind.wrap, IntKind.bits, IntKind.signed]
    omega
   have z5 : (u : Int).tmod 10 = (u : Int) % 10 := Int.tmod_eq_emod_of_nonneg (by omega)
   clear uw
   have hcN : (UInt8.ofNat (48 + u % 10)).toNat = 48 + u % 10 := dig_toNat _ (by omega)
   obtain ⟨c, hc⟩ : ∃ c, c = UInt8.ofNat (48 + u % 10) := ⟨_, rfl⟩
   rw [← hc] at hcN HS
   have hcI : (48 + (u : Int) % 10) = (c.toNat : Int) := by omega
   have HCI := Lib.hid hcI
   have hlen := dgs_len (u / 10)
   have s1 : (str (dgs (u / 10))).size = (dgs (u / 10)).length := by simp [str, ByteArray.size]
   have s2 : (str [c]).size = 1 := by simp [str, ByteArray.size]
   have s3 : ¬ 9223372036854775807 < (str (dgs (u / 10))).size + (str [c]).size := by omega
   have s4 : (str (dgs (u / 10))).size + (str [c]).size ≤ 9223372036854775807 := by omega
   obtain ⟨t1, ht1⟩ : ∃ t, t = str (dgs (u / 10)) := ⟨_, rfl⟩
   obtain ⟨t2, ht2⟩ : ∃ t, t = str [c] := ⟨_, rfl⟩
   rw [← ht1, ← ht2] at s3 s4
   have HT1 := Lib.hid ht1
   have HT2 := Lib.hid ht2
   have qB := conv_drew w c (48 + (u : Int) % 10) hcI
   rw [← ht2] at qB
   clear hc hcN hcI s1 s2 hlen ht1 ht2
   go_wp2_with fail
   go_region_with (go_at_call 155; refine (IH.out _ _ (by omega) (by omega) (by omega)).mono ?_; rintro e w1 ⟨rfl, hb1⟩; rw [← HT1.out]; have qA := conv_now w1 w1.heap.size rfl c (48 + (u : Int) % 10) HCI.out; (first | have qC := conv_later (w := w) c (48 + (u : Int) % 10) HCI.out hb1 (by simp) | have qC := qA); rw [← HT2.out] at qA qC)
   all_goals
    have hbw : Below w.heap.size w w1 := by
     first
     | exact below_of_drew hb1
     | exact (((Below.refl _ w).alloc (Nat.le_refl _) _).drew).trans (hb1.mono (by simp))
    clear qA qC qB hb1
    go_wp2
    go_ret
    refine ⟨?_, ?_⟩
    ·rw [HS.out, str_append, ← HT1.out, ← HT2.out]
     rfl
    ·first
     | exact hbw
     | exact hbw.alloc hbw.size _
theorem itoa_neg (m : Nat) (h : 1 ≤ m) : Lib.itoa (-(m : Int)) = 45 :: dgs m := by
 unfold Lib.itoa dgs
 rw [if_pos (by omega), if_neg (by omega)]
 congr 2
 omega
theorem itoa_pos (m : Nat) (h : 1 ≤ m) : Lib.itoa (m : Int) = dgs m := by
 unfold Lib.itoa dgs
 rw [if_neg (by omega), if_neg (by omega)]
 rfl
theorem itoa_zero : Lib.itoa 0 = [48] := by decide +kernel
set_option maxRecDepth 100000 in
theorem rtext_any (n : Int) (hn : -9223372036854775808 ≤ n ∧ n ≤ 9223372036854775807) (w : World) :
  Calls Tryz.prog 119 #[.int .i64 n] w fun e w' => e = .returned (.string (str (Lib.itoa n))) ∧ Below w.heap.size w w' := by
 by_cases h0 : n = 0
 ·subst h0
  rw [itoa_zero]
  clear hn
  go_enter Tryz.func119, Tryz.ntmps119
  go_wp2
  go_ret
  exact ⟨rfl, Below.refl _ _⟩
 have d0 : (n == 0) = false := beq_eq_false_iff_ne.2 h0
 by_cases h1 : n < 0
 ·obtain ⟨m, hm⟩ : ∃ m : Nat, m = n.natAbs := ⟨_, rfl⟩
  have hm1 : 1 ≤ m := by omega
  have hm2 : m ≤ 9223372036854775808 := by omega
  have hI : Hid (str (Lib.itoa n) = str [45] ++ str (dgs m)) := Lib.hid (by
   rw [show n = -(m : Int) by omega, itoa_neg m hm1, ← str_append]
   rfl)
  have HSZ := Lib.hid (size_any n hn w)
  rw [← hm] at HSZ
  have hlen := dgs_len m
  have s1 : (str (dgs m)).size = (dgs m).length := by simp [str, ByteArray.size]
  obtain ⟨t1, ht1⟩ : ∃ t, t = str (dgs m) := ⟨_, rfl⟩
  have s4 : 1 + t1.size ≤ 9223372036854775807 ∨ True := .inr trivial
  have hdl : (dgs m).length ≤ 20 := dgs_short m (by omega)
  have s3 : t1.size ≤ 20 := by rw [ht1, s1]; exact hdl
  have HT1 := Lib.hid ht1
  clear hn hm h0 hlen s1 ht1 s4 hdl
  rw [hI.out, ← HT1.out]
  go_enter Tryz.func119, Tryz.ntmps119
  go_wp2_with fail
  refine HSZ.out.mono ?_
  rintro e w1 ⟨rfl, rfl⟩
  go_wp2_with fail
  refine (digits3_any (m + 1) m _ w rfl (by omega) (by omega)).mono ?_
  rintro e w1 ⟨rfl, hb⟩
  rw [← HT1.out]
  go_wp2
  go_ret
  exact ⟨rfl, hb⟩
 ·obtain ⟨m, rfl⟩ := Int.eq_ofNat_of_zero_le (show 0 ≤ n by omega)
  have hm1 : 1 ≤ m := by omega
  have hI := Lib.hid (itoa_pos m hm1)
  have HSZ := Lib.hid (size_any (m : Int) hn w)
  have hm2 : m ≤ 9223372036854775807 := by omega
  clear hn h0 h1
  rw [hI.out]
  rw [Int.natAbs_natCast] at HSZ
  go_enter Tryz.func119, Tryz.ntmps119
  go_wp2_with fail
  refine HSZ.out.mono ?_
  rintro e w1 ⟨rfl, rfl⟩
  go_wp2_with fail
  refine (digits3_any (m + 1) m _ w rfl (by omega) (by omega)).mono ?_
  rintro e w1 ⟨rfl, hb⟩
  obtain ⟨t1, ht1⟩ : ∃ t, t = str (dgs m) := ⟨_, rfl⟩
  rw [← ht1]
  have HT1 := Lib.hid ht1
  clear ht1
  go_wp2
  go_ret
  exact ⟨by rw [← HT1.out]; rfl, hb⟩
end Go.Proofs.YteehkcpokgeipaaGreatDoor
