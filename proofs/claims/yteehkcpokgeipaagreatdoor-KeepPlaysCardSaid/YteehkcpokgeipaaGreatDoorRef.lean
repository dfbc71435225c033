/- The reference of layer 1: digits, count, Uint, Int, Text, Ints: the same bytes. Condition: ints fit their kind. -/
import Derived.Test.YteehkcpokgeipaaGreatDoorOwned
set_option linter.unusedVariables false
namespace Go.Proofs.YteehkcpokgeipaaGreatDoor
open Go.RowKit Oct
theorem dig7_int (n : Nat) : (n : Int) % 128 + 128 = ((dig7 n).toNat : Int) := by
 unfold dig7
 rw [toNat_ofNat8 _ (by omega)]
 omega
theorem low7_int (n : Nat) : (n : Int) % 128 = ((low7 n).toNat : Int) := by
 unfold low7
 rw [toNat_ofNat8 _ (by omega)]
 omega
set_option maxRecDepth 100000 in
theorem digits_any (k : Nat) : ∀ (n : Nat) (w : World), n < 128 ^ k → k ≤ 10 → n < 2 ^ 64 → ∀ M : Int, M = (n : Int) →
  Calls Tryz.prog 179 #[.int .u64 M] w fun e w' => ∃ v, e = .returned v ∧ Bs w' w.heap.size v (digs n) ∧ Below w.heap.size w w' := by
 induction k with
 | zero =>
  intro n w hn _ _ M hM
  subst hM
  obtain rfl : n = 0 := by simpa using hn
  go_enter Tryz.func179, Tryz.ntmps179
  go_wp2_with fail
  go_ret
  rw [digs_zero]
  exact ⟨_, rfl, Own.nil _ _ _, Below.refl _ _⟩
 | succ k ih =>
  intro n w hn hk hn2 M hM
  subst hM
  by_cases h0 : n = 0
  ·subst h0
   go_enter Tryz.func179, Tryz.ntmps179
   go_wp2_with fail
   go_ret
   rw [digs_zero]
   exact ⟨_, rfl, Own.nil _ _ _, Below.refl _ _⟩
  ·have h1 : n / 128 < 128 ^ k := by
    apply Nat.div_lt_of_lt_mul
    rw [Nat.pow_succ] at hn
    omega
   have hlen := digs_len (n / 128) k h1
   have IH := Lib.hid (ih (n / 128) w h1 (by omega) (by omega))
   have hd := Lib.hid (digs_pos n h0)
   have h00 : ((n : Int) == 0) = false := by simp; omega
   have hq : IntKind.u64.wrap ((n : Int) / 128) = (n : Int) / 128 := IntWalk.u64_in _ (by omega)
   clear ih hn hn2 h0 h1
   go_enter Tryz.func179, Tryz.ntmps179
   go_wp2_with fail
   refine (IH.out _ (by omega)).mono ?_
   rintro e w1 ⟨v, rfl, hown, hb⟩
   have hsz := hb.size
   clear IH
   go_wp2_with (at_builtin; refine wpList_push rfl (.tmp 7) (.tmp 12) 27 rfl w.heap.size 5 (.int .u8 0) 1 Tryz.underlying27 info_u8 rfl _ _ _ _ (congrArg (Value.int .u8) (dig7_int n)) rfl hown rfl rfl (by rw [cells_length]; omega) (by rw [cells_length]; omega) (by omega) ?_)
   intro v' w2 hown' hg' hf'
   have hown2 : Bs w2 w.heap.size v' (digs n) := by rw [hd.out]; unfold Bs; rw [cells_append]; exact hown'
   have hb2 : Below w.heap.size w w2 := hb.grown hg' hsz (fun g hg => (hown.lt g hg).1)
   clear hown' hg' hf' hown hb
   go_wp2
   go_ret
   exact ⟨v', rfl, hown2, hb2⟩
set_option maxRecDepth 100000 in
theorem rcount_any (n : Nat) (w : World) (hn : n < 2 ^ 64) :
  Calls Tryz.prog 154 #[.int .u64 n] w fun e w' => ∃ v, e = .returned v ∧ Bs w' w.heap.size v (enc n) ∧ Below w.heap.size w w' := by
 have hlen := digs_len (n / 128) 9 (by omega)
 have IH := Lib.hid (digits_any 9 (n / 128) w (by omega) (by omega) (by omega))
 have hq : IntKind.u64.wrap ((n : Int) / 128) = (n : Int) / 128 := IntWalk.u64_in _ (by omega)
 clear hn
 go_enter Tryz.func154, Tryz.ntmps154
 go_wp2_with fail
 refine (IH.out _ (by omega)).mono ?_
 rintro e w1 ⟨v, rfl, hown, hb⟩
 have hsz := hb.size
 clear IH
 go_wp2_with (at_builtin; refine wpList_push rfl (.tmp 5) (.tmp 9) 27 rfl w.heap.size 5 (.int .u8 0) 1 Tryz.underlying27 info_u8 rfl _ _ _ _ (congrArg (Value.int .u8) (low7_int n)) rfl hown rfl rfl (by rw [cells_length]; omega) (by rw [cells_length]; omega) (by omega) ?_)
 intro v' w2 hown' hg' hf'
 have hown2 : Bs w2 w.heap.size v' (enc n) := by unfold Bs enc; rw [cells_append]; exact hown'
 have hb2 : Below w.heap.size w w2 := hb.grown hg' hsz (fun g hg => (hown.lt g hg).1)
 clear hown' hg' hf' hown hb
 go_wp2
 go_ret
 exact ⟨v', rfl, hown2, hb2⟩
theorem ruint_neg (n : Int) (w : World) (h : n < 0) :
  Calls Tryz.prog 117 #[.int .i64 n] w fun e w' => e = .returned (.tuple #[.slice none 0 0, .int .i64 1]) ∧ w = w' := by
 go_enter Tryz.func117, Tryz.ntmps117
 go_wp2
 go_ret2
 exact ⟨rfl, rfl⟩
theorem ruint_pos (n : Nat) (w : World) (h : n ≤ 9223372036854775807) :
  Calls Tryz.prog 117 #[.int .i64 n] w fun e w' => ∃ v, e = .returned (.tuple #[v, .int .i64 0]) ∧ Bs w' w.heap.size v (enc n) ∧ Below w.heap.size w w' := by
 go_enter Tryz.func117, Tryz.ntmps117
 go_wp2_with fail
 refine (rcount_any n w (by omega)).mono ?_
 rintro e w1 ⟨v, rfl, hown, hb⟩
 go_wp2
 go_ret2
 exact ⟨v, rfl, hown, hb⟩
set_option maxRecDepth 100000 in
theorem rint_any (n : Int) (h : -9223372036854775808 ≤ n ∧ n ≤ 9223372036854775807) (w : World) :
  Calls Tryz.prog 113 #[.int .i64 n] w fun e w' => ∃ v, e = .returned v ∧ Bs w' w.heap.size v (enc (fold1 n)) ∧ Below w.heap.size w w' := by
 have hc := fun (m : Nat) (M : Int) (hm : M = m) (hM : m < 2 ^ 64) => (show Calls Tryz.prog 154 #[.int .u64 M] w fun e w' => ∃ v, e = .returned v ∧ Bs w' w.heap.size v (enc m) ∧ Below w.heap.size w w' by subst hm; exact rcount_any m w hM)
 have HC := Lib.hid hc
 clear hc
 by_cases h0 : 0 ≤ n
 ·obtain ⟨k, rfl⟩ := Int.eq_ofNat_of_zero_le h0
  have hk : k ≤ 9223372036854775807 := by omega
  have hf : fold1 (k : Int) = 2 * k := by unfold fold1; rw [if_pos h0]; simp
  have HF := Lib.hid hf
  clear h hf
  go_enter Tryz.func113, Tryz.ntmps113
  go_wp2_with fail
  refine (HC.out (2 * k) _ (by simp) (by omega)).mono ?_
  rintro e w1 ⟨v, rfl, hown, hb⟩
  go_wp2
  go_ret
  rw [HF.out]
  exact ⟨v, rfl, hown, hb⟩
 ·obtain ⟨k, hk, hk2⟩ : ∃ k : Nat, n = -(k : Int) - 1 ∧ k ≤ 9223372036854775807 := ⟨(-(n + 1)).toNat, by omega, by omega⟩
  subst hk
  have hf : fold1 (-(k : Int) - 1) = 2 * k + 1 := by unfold fold1; rw [if_neg h0]; omega
  have HF := Lib.hid hf
  clear h hf
  go_enter Tryz.func113, Tryz.ntmps113
  go_wp2_with fail
  refine (HC.out (2 * k + 1) _ (by first | (simp; done) | (simp; omega)) (by omega)).mono ?_
  rintro e w1 ⟨v, rfl, hown, hb⟩
  go_wp2
  go_ret
  rw [HF.out]
  exact ⟨v, rfl, hown, hb⟩
end Go.Proofs.YteehkcpokgeipaaGreatDoor
set_option linter.unusedVariables false
namespace Go.Proofs.YteehkcpokgeipaaGreatDoor
open Go.RowKit Oct
section
variable {m i k d c g : Nat} {x : UInt8} {l : List UInt8} {w : World}
theorem rbad_end (hh : Hid (cnt m l = tkc m (i == 0) k i (l.drop i))) (hd : l.drop i = x :: l.drop (i + 1)) (hb : bad m i k x = true) :
  Ending.returned (.tuple #[.int .u64 0, .int .i64 0, .int .i64 4]) = .returned (.tuple #[.int .u64 (takeU m l).1, .int .i64 (takeU m l).2.1, .int .i64 (takeU m l).2.2]) ∧ w = w := by
 unfold takeU
 rw [hh.out, hd, tkc_cons, if_pos hb]
 exact ⟨rfl, rfl⟩
theorem rgood_end (hh : Hid (cnt m l = tkc m (i == 0) k i (l.drop i))) (hd : l.drop i = x :: l.drop (i + 1)) (hb : bad m i k x = false) (hx : x.toNat < 128) :
  Ending.returned (.tuple #[.int .u64 ((k : Int) * 128 + (x.toNat : Int) % 128), .int .i64 ((i : Int) + 1), .int .i64 0]) = .returned (.tuple #[.int .u64 (takeU m l).1, .int .i64 (takeU m l).2.1, .int .i64 (takeU m l).2.2]) ∧ w = w := by
 unfold takeU
 rw [hh.out, hd, tkc_cons, if_neg (by rw [hb]; exact Bool.false_ne_true), if_pos hx]
 exact ⟨ret3 (by congr 1) rfl rfl, rfl⟩
theorem rgood_round (hh : Hid (cnt m l = tkc m (i == 0) k i (l.drop i))) (hd : l.drop i = x :: l.drop (i + 1)) (hb : bad m i k x = false) (hx : ¬ x.toNat < 128) (hlt : i < l.length) :
  ∃ i' k' : Nat, i' ≤ l.length ∧ Value.int .u64 ((k : Int) * 128 + (x.toNat : Int) % 128) = .int .u64 k' ∧ Value.int .i64 ((i : Int) + 1) = .int .i64 i' ∧ k' ≤ m ∧ Hid (cnt m l = tkc m (i' == 0) k' i' (l.drop i')) := by
 refine ⟨i + 1, k * 128 + x.toNat % 128, by omega, by congr 1, rfl, bad_le hb, ?_⟩
 show cnt m l = _
 rw [hh.out, hd, tkc_cons, if_neg (by rw [hb]; exact Bool.false_ne_true), if_neg hx]
end
set_option maxHeartbeats 1000000 in
set_option maxRecDepth 100000 in
theorem rtake_any (m : Nat) (M : Int) (hM : M = (m : Int)) (hm : m < 2 ^ 64) (A : Option Addr) (l : List UInt8) (c B : Nat) (w : World) (hr : Rd w B A (cells l)) (hl : l.length ≤ 4611686018427387904) :
  Calls Tryz.prog 182 #[.slice A l.length c, .int .u64 M] w fun e w' => e = .returned (.tuple #[.int .u64 (takeU m l).1, .int .i64 (takeU m l).2.1, .int .i64 (takeU m l).2.2]) ∧ w = w' := by
 subst hM
 have Hm := Lib.hid hm
 have hq : IntKind.u64.wrap ((m : Int) / 128) = (m : Int) / 128 := IntWalk.u64_in _ (by omega)
 clear hm
 have hid0 : Hid (cnt m l = tkc m ((0 : Nat) == 0) 0 0 (l.drop 0)) := Lib.hid rfl
 go_enter Tryz.func182, Tryz.ntmps182
 go_wp2_with fail
 go_loop [7, 8, 9] (fun n j y => ∃ i k : Nat, i ≤ l.length ∧ n = .int .u64 k ∧ j = .int .i64 i ∧ k ≤ m ∧ Hid (cnt m l = tkc m (i == 0) k i (l.drop i))) (fun _ j _ => l.length - (intOf j).toNat)
 case atStart => exact ⟨0, 0, by omega, rfl, rfl, by omega, hid0⟩
 case round =>
  obtain ⟨i, k, hi, rfl, rfl, hk, hh⟩ := hrel
  by_cases hlt : i < l.length
  ·obtain ⟨ad, rfl, hbk, hcell⟩ := rd_at hr hlt
   obtain ⟨x, hx⟩ : ∃ x, x = l[i] := ⟨_, rfl⟩
   have hdrop : l.drop i = x :: l.drop (i + 1) := by rw [hx]; exact List.drop_eq_getElem_cons hlt
   rw [← hx] at hcell
   have hxl := x.toNat_lt
   clear hx
   have HD := Lib.hid hdrop
   rcases Nat.eq_zero_or_pos i with hi0 | hi0
   ·subst hi0
    have HI : Hid ((0 : Nat) = 0) := Lib.hid rfl
    have hcell0 : w.cell? ad = some (.int .u8 (x.toNat : Int)) := hcell
    by_cases hx8 : x.toNat = 128
    ·have g3 : ((x.toNat : Int) == 128) = true := by simp; omega
     have HB := Lib.hid (bad_x m k rfl hx8)
     clear hx8
     go_wp2
     go_ret3
     exact rbad_end hh hdrop HB.out
    ·have g3 : ((x.toNat : Int) == 128) = false := by simp; omega
     have HX := Lib.hid hx8
     clear hx8
     rcases Nat.lt_trichotomy (m / 128) k with hk1 | hk1 | hk1
     ·have e1 : ¬ ((k : Int) ≤ (m : Int) / 128) := by omega
      have e2 : (m : Int) / 128 < k := by omega
      have HB := Lib.hid (bad_k 0 x hk1)
      go_wp2
      go_ret3
      exact rbad_end hh hdrop HB.out
     ·rcases Nat.lt_or_ge (m % 128) (x.toNat % 128) with hd1 | hd1
      ·have e1 : ¬ ((x.toNat : Int) % 128 ≤ (m : Int) % 128) := by omega
       have e2 : (m : Int) % 128 < (x.toNat : Int) % 128 := by omega
       have HB := Lib.hid (bad_d 0 hk1 hd1)
       subst hk1
       go_wp2
       go_ret3
       exact rbad_end hh hdrop HB.out
      ·have e1 : (x.toNat : Int) % 128 ≤ (m : Int) % 128 := by omega
       have e2 : ¬ (m : Int) % 128 < (x.toNat : Int) % 128 := by omega
       have HB := Lib.hid (bad_no (m := m) (i := 0) (k := k) (x := x) (by have := HI.out; have := HX.out; omega) (by omega) (by intro _; exact hd1))
       subst hk1
       have hkk : m / 128 ≤ 144115188075855871 := by have := Hm.out; omega
       by_cases hx128 : x.toNat < 128
       ·go_wp2
        go_ret3
        exact rgood_end hh hdrop HB.out hx128
       ·go_wp2
        go_round
        case rel => exact rgood_round hh hdrop HB.out hx128 hlt
        case measure => simp [intOf]; omega
     ·have e1 : ((k : Int) ≤ (m : Int) / 128) := by omega
      have e2 : ¬ (m : Int) / 128 < k := by omega
      have e3 : ¬ ((k : Int) = (m : Int) / 128) := by omega
      have e4 : ((k : Int) == (m : Int) / 128) = false := by simp; omega
      have HB := Lib.hid (bad_no (m := m) (i := 0) (k := k) (x := x) (by have := HI.out; have := HX.out; omega) (by omega) (by omega))
      have hkk : k ≤ 144115188075855871 := by have := Hm.out; omega
      by_cases hx128 : x.toNat < 128
      ·go_wp2
       go_ret3
       exact rgood_end hh hdrop HB.out hx128
      ·go_wp2
       go_round
       case rel => exact rgood_round hh hdrop HB.out hx128 hlt
       case measure => simp [intOf]; omega
   ·have g1 : ((i : Int) == 0) = false := by simp; omega
    have HI := Lib.hid hi0
    have HX := HI
    rcases Nat.lt_trichotomy (m / 128) k with hk1 | hk1 | hk1
    ·have e1 : ¬ ((k : Int) ≤ (m : Int) / 128) := by omega
     have e2 : (m : Int) / 128 < k := by omega
     have HB := Lib.hid (bad_k i x hk1)
     go_wp2
     go_ret3
     exact rbad_end hh hdrop HB.out
    ·rcases Nat.lt_or_ge (m % 128) (x.toNat % 128) with hd1 | hd1
     ·have e1 : ¬ ((x.toNat : Int) % 128 ≤ (m : Int) % 128) := by omega
      have e2 : (m : Int) % 128 < (x.toNat : Int) % 128 := by omega
      have HB := Lib.hid (bad_d i hk1 hd1)
      subst hk1
      go_wp2
      go_ret3
      exact rbad_end hh hdrop HB.out
     ·have e1 : (x.toNat : Int) % 128 ≤ (m : Int) % 128 := by omega
      have e2 : ¬ (m : Int) % 128 < (x.toNat : Int) % 128 := by omega
      have HB := Lib.hid (bad_no (m := m) (i := i) (k := k) (x := x) (by have := HI.out; have := HX.out; omega) (by omega) (by intro _; exact hd1))
      subst hk1
      have hkk : m / 128 ≤ 144115188075855871 := by have := Hm.out; omega
      by_cases hx128 : x.toNat < 128
      ·go_wp2
       go_ret3
       exact rgood_end hh hdrop HB.out hx128
      ·go_wp2
       go_round
       case rel => exact rgood_round hh hdrop HB.out hx128 hlt
       case measure => simp [intOf]; omega
    ·have e1 : ((k : Int) ≤ (m : Int) / 128) := by omega
     have e2 : ¬ (m : Int) / 128 < k := by omega
     have e3 : ¬ ((k : Int) = (m : Int) / 128) := by omega
     have e4 : ((k : Int) == (m : Int) / 128) = false := by simp; omega
     have HB := Lib.hid (bad_no (m := m) (i := i) (k := k) (x := x) (by have := HI.out; have := HX.out; omega) (by omega) (by omega))
     have hkk : k ≤ 144115188075855871 := by have := Hm.out; omega
     by_cases hx128 : x.toNat < 128
     ·go_wp2
      go_ret3
      exact rgood_end hh hdrop HB.out hx128
     ·go_wp2
      go_round
      case rel => exact rgood_round hh hdrop HB.out hx128 hlt
      case measure => simp [intOf]; omega
  ·have hge : l.drop i = [] := List.drop_eq_nil_of_le (by omega)
   go_wp2
   go_ret3
   unfold takeU
   rw [hh.out, hge]
   exact ⟨rfl, rfl⟩
end Go.Proofs.YteehkcpokgeipaaGreatDoor
set_option linter.unusedVariables false
namespace Go.Proofs.YteehkcpokgeipaaGreatDoor
open Go.RowKit Oct
theorem bytes_oneCell (l : List UInt8) : ∀ u ∈ cells l, u.oneCell' = true := by
 intro u hu
 obtain ⟨_, _, rfl⟩ := List.mem_map.1 hu
 rfl
theorem takeU_le (m : Nat) (l : List UInt8) : (takeU m l).1 ≤ m := cnt_le m l
set_option maxRecDepth 100000 in
theorem rtakeUint_any (A : Option Addr) (l : List UInt8) (n c B : Nat) (hn : n = l.length) (w : World) (hr : Rd w B A (cells l)) (hl : l.length ≤ 4611686018427387904) :
  Calls Tryz.prog 181 #[.slice A n c] w fun e w' => e = .returned (.tuple #[.int .i64 (takeU maxI l).1, .int .i64 (takeU maxI l).2.1, .int .i64 (takeU maxI l).2.2]) ∧ w = w' := by
 subst hn
 have hle : (takeU maxI l).1 ≤ 9223372036854775807 := takeU_le maxI l
 go_enter Tryz.func181, Tryz.ntmps181
 go_wp2_with fail
 refine (rtake_any maxI _ maxI_eq maxI_lt A l c B _ hr hl).mono ?_
 rintro e w1 ⟨rfl, rfl⟩
 go_wp2
 go_ret3
 exact ⟨rfl, rfl⟩
set_option maxRecDepth 100000 in
theorem rtakeInt_any (A : Option Addr) (l : List UInt8) (n c B : Nat) (hn : n = l.length) (w : World) (hr : Rd w B A (cells l)) (hl : l.length ≤ 4611686018427387904) :
  Calls Tryz.prog 160 #[.slice A n c] w fun e w' => e = .returned (.tuple #[.int .i64 (unfold1 (takeU maxU l).1), .int .i64 (takeU maxU l).2.1, .int .i64 (takeU maxU l).2.2]) ∧ w = w' := by
 subst hn
 have hle : (takeU maxU l).1 ≤ 18446744073709551615 := takeU_le maxU l
 obtain ⟨u, hu⟩ : ∃ u, u = (takeU maxU l).1 := ⟨_, rfl⟩
 have hq : IntKind.u64.wrap ((u : Int) / 2) = (u : Int) / 2 := IntWalk.u64_in _ (by rw [hu]; omega)
 have hw : wrap64 ((u : Int) / 2) = (u : Int) / 2 := IntWalk.wrap64_in _ ⟨by omega, by rw [hu]; omega⟩
 have hu2 : u / 2 ≤ 9223372036854775807 := by rw [hu]; omega
 have HU := Lib.hid hu
 clear hle hu
 by_cases h2 : u % 2 = 1
 ·have g1 : ((u : Int) % 2 == 1) = true := by simp; omega
  have hf : unfold1 u = -((u / 2 : Nat) : Int) - 1 := by unfold unfold1; rw [if_neg (by omega)]
  have HF := Lib.hid hf
  clear h2 hf
  go_enter Tryz.func160, Tryz.ntmps160
  go_wp2_with fail
  refine (rtake_any maxU _ maxU_eq maxU_lt A l c B _ hr hl).mono ?_
  rintro e w1 ⟨rfl, rfl⟩
  rw [← HU.out]
  go_wp2
  go_ret3
  rw [← HU.out, HF.out]
  exact ⟨rfl, rfl⟩
 ·have g1 : ((u : Int) % 2 == 1) = false := by simp; omega
  have hf : unfold1 u = ((u / 2 : Nat) : Int) := by unfold unfold1; rw [if_pos (by omega)]
  have HF := Lib.hid hf
  clear h2 hf
  go_enter Tryz.func160, Tryz.ntmps160
  go_wp2_with fail
  refine (rtake_any maxU _ maxU_eq maxU_lt A l c B _ hr hl).mono ?_
  rintro e w1 ⟨rfl, rfl⟩
  rw [← HU.out]
  go_wp2
  go_ret3
  rw [← HU.out, HF.out]
  exact ⟨rfl, rfl⟩
set_option maxRecDepth 100000 in
theorem rints_long (A : Option Addr) (n c : Nat) (w : World) (h : 4096 < n) (h2 : n ≤ 9223372036854775807) :
  Calls Tryz.prog 114 #[.slice A n c] w fun e w' => e = .returned (.tuple #[.slice none 0 0, .int .i64 2]) ∧ w = w' := by
 go_enter Tryz.func114, Tryz.ntmps114
 go_wp2
 go_ret2
 exact ⟨rfl, rfl⟩
set_option maxRecDepth 100000 in
theorem rints_ok (A : Option Addr) (z : List Int) (c : Nat) (w : World) (hr : Rd w w.heap.size A (z.map (Value.int .i64))) (hz : ∀ n ∈ z, -9223372036854775808 ≤ n ∧ n ≤ 9223372036854775807) (h : z.length ≤ 4096) :
  Calls Tryz.prog 114 #[.slice A z.length c] w fun e w' => ∃ v, e = .returned (.tuple #[v, .int .i64 0]) ∧ Bs w' w.heap.size v (enc z.length ++ encs z) ∧ Below w.heap.size w w' := by
 have HZ := Lib.hid hz
 clear hz
 go_enter Tryz.func114, Tryz.ntmps114
 go_wp2_with fail
 refine (rcount_any z.length w (by omega)).mono ?_
 rintro e w1 ⟨v, rfl, hown, hb⟩
 have hlen := enc_len z.length (by omega)
 go_wp2_with fail
 go_loopw [4, 5] (fun v i wr => ∃ k : Nat, k ≤ z.length ∧ i = .int .i64 k ∧ Bs wr w.heap.size v (enc z.length ++ encs (z.take k)) ∧ Below w.heap.size w wr) (fun _ i _ => z.length - (intOf i).toNat)
 case atStart => exact ⟨0, by omega, rfl, by simpa [encs] using hown, hb⟩
 case round =>
  clear hown hb
  obtain ⟨k, hk, rfl, hown, hb⟩ := hrel
  by_cases hlt : k < z.length
  ·obtain ⟨ad, rfl, hbk, hcell⟩ := rd_at hr hlt
   have hcw : wr.cell? (ad.add k) = some (.int .i64 z[k]) := (hb.cell (by rw [block_of_add]; exact hbk)).trans hcell
   have hzk := HZ.out z[k] (List.getElem_mem hlt)
   have HB := Lib.hid hzk
   have hts : z.take (k + 1) = z.take k ++ [z[k]] := by rw [List.take_succ_eq_append_getElem hlt]
   have HT := Lib.hid hts
   have hel := encs_len (z.take k) (fun n hn => HZ.out n (List.mem_of_mem_take hn))
   rw [List.length_take] at hel
   have hsz := hb.size
   have hfl := enc_len _ (fold1_lt _ hzk)
   clear hzk hts hcell
   generalize z[k] = x at *
   go_wp2_with fail
   refine (rint_any x HB.out _).mono ?_
   rintro e w2 ⟨v2, rfl, hown2, hb2⟩
   obtain ⟨A2, c2, rfl, hc2, hm2, hr2⟩ := bs_shape hown2
   have hown1 := hown.below hb2 (Nat.le_refl _)
   have hb3 := hb.trans (hb2.mono hsz)
   have hsz2 := hb3.size
   have hsz3 := hb2.size
   clear hown hb hb2
   go_wp2_with (at_builtin; refine wpList_append_any rfl (.tmp 19) (.tmp 24) 27 rfl w.heap.size 5 (.int .u8 0) 1 Tryz.underlying27 info_u8 rfl _ _ rfl hown1 w2.heap.size A2 (enc (fold1 x)).length c2 _ rfl (cells_length _).symm hr2 (bytes_oneCell _) (by rw [cells_length]; unfold maxLen; simp; omega) (by rw [cells_length]; simp; omega) (by omega) ?_)
   intro v' w3 hown3 hg3 hf3
   have hb4 : Below w.heap.size w w3 := hb3.grown hg3 hsz2 (fun k hk => (hown1.lt k hk).1)
   have hown4 : Bs w3 w.heap.size v' (enc z.length ++ encs (z.take (k + 1))) := by
    rw [HT.out, encs_snoc, ← List.append_assoc]
    unfold Bs
    rw [cells_append _ (enc _)]
    exact hown3
   clear hown1 hb3 hown3 hg3 hf3 hr2 hown2
   go_wp2
   go_roundw
   case rel => exact ⟨k + 1, by omega, by go_num, hown4, hb4⟩
   case measure => simp [intOf]; omega
  ·have hkl : z.take k = z := List.take_of_length_le (by omega)
   rw [hkl] at hown
   go_wp2
   go_ret2
   exact ⟨_, rfl, hown, hb⟩
end Go.Proofs.YteehkcpokgeipaaGreatDoor
set_option linter.unusedVariables false
namespace Go.Proofs.YteehkcpokgeipaaGreatDoor
open Go.RowKit Oct
theorem takeU_used (m : Nat) (l : List UInt8) : (takeU m l).2.1 ≤ l.length := by
 unfold takeU
 have := cnt_used m l
 show (if (cnt m l).2.2 = 0 then (cnt m l).2.1 else 0) ≤ _
 split <;> omega
theorem lenOf_takeU (m : Nat) (l : List UInt8) : lenOf m l = if (takeU maxI l).2.2 = 0 then (if m < (takeU maxI l).1 then (0, 2) else ((takeU maxI l).1, 0)) else (0, (takeU maxI l).2.2) := rfl
theorem takeU_at {m : Nat} {l : List UInt8} (h : (takeU m l).2.2 = 0) : (takeU m l).2.1 = (cnt m l).2.1 := if_pos h
theorem takeZ_err {l : List UInt8} (h : (takeU maxI l).2.2 ≠ 0) : takeZ l = ([], 0, (takeU maxI l).2.2) := by
 have h1 : lenOf 4096 l = (0, (takeU maxI l).2.2) := by rw [lenOf_takeU, if_neg h]
 unfold takeZ
 rw [h1, if_neg h]
theorem takeZ_long {l : List UInt8} (h : (takeU maxI l).2.2 = 0) (h2 : 4096 < (takeU maxI l).1) : takeZ l = ([], 0, 2) := by
 have h1 : lenOf 4096 l = (0, 2) := by rw [lenOf_takeU, if_pos h, if_pos h2]
 unfold takeZ
 rw [h1]
 rfl
theorem takeZ_ok {l : List UInt8} (h : (takeU maxI l).2.2 = 0) (h2 : ¬ 4096 < (takeU maxI l).1) : takeZ l = tz l (takeU maxI l).1 (takeU maxI l).2.1 [] := by
 have h1 : lenOf 4096 l = ((takeU maxI l).1, 0) := by rw [lenOf_takeU, if_pos h, if_neg h2]
 unfold takeZ
 rw [h1, if_pos rfl, ← takeU_at h]
theorem tz_yes {l : List UInt8} {n a : Nat} {acc : List Int} (h : (takeU maxU (l.drop a)).2.2 = 0) : tz l (n + 1) a acc = tz l n (a + (takeU maxU (l.drop a)).2.1) (acc ++ [unfold1 (takeU maxU (l.drop a)).1]) := by
 rw [tz, if_pos (show (cnt maxU (l.drop a)).2.2 = 0 from h), takeU_at h]
 rfl
theorem tz_no {l : List UInt8} {n a : Nat} {acc : List Int} (h : (takeU maxU (l.drop a)).2.2 ≠ 0) : tz l (n + 1) a acc = ([], 0, (takeU maxU (l.drop a)).2.2) := by
 rw [tz, if_neg (show ¬ (cnt maxU (l.drop a)).2.2 = 0 from h)]
 rfl
set_option maxHeartbeats 1000000 in
set_option maxRecDepth 100000 in
theorem rtakeInts_any (A : Option Addr) (l : List UInt8) (c : Nat) (w : World) (hr : Rd w w.heap.size A (cells l)) (hlc : l.length ≤ c) (hl : l.length ≤ 4611686018427387904) :
  Calls Tryz.prog 161 #[.slice A l.length c] w fun e w' => ∃ v, e = .returned (.tuple #[v, .int .i64 (takeZ l).2.1, .int .i64 (takeZ l).2.2]) ∧ Is w' w.heap.size v (takeZ l).1 ∧ Below w.heap.size w w' := by
 have hle : (takeU maxI l).1 ≤ 9223372036854775807 := takeU_le maxI l
 have hus := takeU_used maxI l
 by_cases he : (takeU maxI l).2.2 = 0
 ·by_cases h2 : 4096 < (takeU maxI l).1
  ·rw [takeZ_long he h2]
   have he1 : ((takeU maxI l).2.2 != 0) = false := by simpa using he
   clear he
   go_enter Tryz.func161, Tryz.ntmps161
   go_wp2_with fail
   refine (rtakeUint_any A l _ c _ rfl _ hr (by omega)).mono ?_
   rintro e w1 ⟨rfl, rfl⟩
   go_wp2
   go_ret3
   exact ⟨_, rfl, Own.nil _ _ _, Below.refl _ _⟩
  ·have HZ := Lib.hid (takeZ_ok he h2)
   have he1 : ((takeU maxI l).2.2 != 0) = false := by simpa using he
   have HE := Lib.hid he
   clear he
   obtain ⟨n, hn⟩ : ∃ n, n = (takeU maxI l).1 := ⟨_, rfl⟩
   obtain ⟨u, hu⟩ : ∃ u, u = (takeU maxI l).2.1 := ⟨_, rfl⟩
   rw [← hn] at h2 hle HZ
   rw [← hu] at hus HZ
   have HN := Lib.hid hn
   have HU := Lib.hid hu
   clear hn hu
   go_enter Tryz.func161, Tryz.ntmps161
   go_wp2_with fail
   refine (rtakeUint_any A l _ c _ rfl _ hr (by omega)).mono ?_
   rintro e w1 ⟨rfl, rfl⟩
   rw [← HN.out, ← HU.out]
   go_wp2_with fail
   go_loopw [6, 8, 9, 10, 11, 12] (fun at_ v i y1 y2 y3 wr => ∃ (k a : Nat) (acc : List Int), i = .int .i64 k ∧ at_ = .int .i64 a ∧ k ≤ n ∧ acc.length = k ∧ a ≤ l.length ∧ Is wr w.heap.size v acc ∧ Below w.heap.size w wr ∧ Hid (takeZ l = tz l (n - k) a acc))
    (fun _ _ i _ _ _ _ => n - (intOf i).toNat)
   case atStart => exact ⟨0, u, [], rfl, rfl, by omega, rfl, hus, Own.nil _ _ _, Below.refl _ _, HZ⟩
   case round =>
    clear HZ hus
    obtain ⟨k, a, acc, rfl, rfl, hk, hacc, ha, hown, hb, hz⟩ := hrel
    have hsz := hb.size
    by_cases hlt : k < n
    ·have hacc' : acc.length ≤ 4096 := by omega
     have hcut := fun W : World => run_cut_from (P := Tryz.prog) Tryz.underlying27 info_u8 A l.length c a ha (a : Int) rfl W
     have hrd : Rd wr w.heap.size (cutA A a c) (cells (l.drop a)) := by
      have := Rd.cutA (hr.below hb) (k := a) (cap := c) (by rw [cells_length]; omega) (by rw [cells_length]; omega)
      simpa [cells, List.map_drop] using this
     have HA := Lib.hid hacc
     have hus := takeU_used maxU (l.drop a)
     rw [List.length_drop] at hus
     clear hacc
     go_wp2_with fail
     refine (rtakeInt_any _ (l.drop a) _ _ _ (by rw [List.length_drop]) _ hrd (by rw [List.length_drop]; omega)).mono ?_
     rintro e w1 ⟨rfl, rfl⟩
     clear hcut hrd
     by_cases he : (takeU maxU (l.drop a)).2.2 = 0
     ·have he1 : ((takeU maxU (l.drop a)).2.2 != 0) = false := by simpa using he
      have hst : takeZ l = tz l (n - (k + 1)) (a + (takeU maxU (l.drop a)).2.1) (acc ++ [unfold1 (takeU maxU (l.drop a)).1]) := by
       rw [hz.out, show n - k = (n - (k + 1)) + 1 by omega, tz_yes he]
      have HS := Lib.hid hst
      have HE := Lib.hid he
      clear he hst
      go_wp2_with (at_builtin; refine wpList_push rfl (.tmp 40) (.tmp 42) 26 rfl w.heap.size 3 (.int .i64 0) 8 Tryz.underlying26 info_int rfl _ _ _ _ rfl rfl hown rfl rfl (by rw [List.length_map]; omega) (by rw [List.length_map]; omega) (by omega) ?_)
      intro v' w3 hown3 hg3 hf3
      have hb3 : Below w.heap.size w w3 := hb.grown hg3 (by omega) (fun k hk => (hown.lt _ hk).1)
      have hown4 : Is w3 w.heap.size v' (acc ++ [unfold1 (takeU maxU (l.drop a)).1]) := by unfold Is; rw [List.map_append]; exact hown3
      clear hown hb hown3 hg3 hf3
      go_wp2
      go_roundw
      case rel => exact ⟨k + 1, a + (takeU maxU (l.drop a)).2.1, _, by go_num, by go_num, by omega, by have := HA.out; simp; omega, by omega, hown4, hb3, HS⟩
      case measure => simp [intOf]; omega
     ·have he1 : ((takeU maxU (l.drop a)).2.2 != 0) = true := by simpa using he
      have hst : takeZ l = ([], 0, (takeU maxU (l.drop a)).2.2) := by
       rw [hz.out, show n - k = (n - (k + 1)) + 1 by omega, tz_no he]
      have HS := Lib.hid hst
      clear he hst
      go_wp2
      go_ret3
      rw [HS.out]
      exact ⟨_, rfl, Own.nil _ _ _, hb⟩
    ·have hst : takeZ l = (acc, a, 0) := by rw [hz.out, show n - k = 0 by omega, tz]
     have HS := Lib.hid hst
     clear hst hacc
     go_wp2
     go_ret3
     rw [HS.out]
     exact ⟨_, rfl, hown, hb⟩
 ·rw [takeZ_err he]
  have he1 : ((takeU maxI l).2.2 != 0) = true := by simpa using he
  clear he
  go_enter Tryz.func161, Tryz.ntmps161
  go_wp2_with fail
  refine (rtakeUint_any A l _ c _ rfl _ hr (by omega)).mono ?_
  rintro e w1 ⟨rfl, rfl⟩
  go_wp2
  go_ret3
  exact ⟨_, rfl, Own.nil _ _ _, Below.refl _ _⟩
theorem same_any (A B : Option Addr) (x y : List Int) (c d K : Nat) (w : World) (ha : Rd w K A (x.map (Value.int .i64))) (hb : Rd w K B (y.map (Value.int .i64))) (hx : x.length ≤ 4611686018427387904) (hy : y.length ≤ 4611686018427387904) :
  Calls Tryz.prog 80 #[.slice A x.length c, .slice B y.length d] w fun e w' => e = .returned (.bool (decide (x = y))) ∧ Below w.heap.size w w' := by
 by_cases hl : x.length = y.length
 ·have hl2 : ((x.length : Int) != (y.length : Int)) = false := by simp [hl]
  have HL := Lib.hid hl
  clear hl
  go_enter Tryz.func80, Tryz.ntmps80
  go_wp2_with fail
  go_loopw [5] (fun i wr => ∃ k : Nat, k ≤ x.length ∧ i = .int .i64 k ∧ Below w.heap.size w wr ∧ wr.heap = w.heap ∧ x.take k = y.take k) (fun i _ => x.length - (intOf i).toNat)
  case atStart => exact ⟨0, by omega, rfl, Below.refl _ _, rfl, by simp⟩
  case round =>
   obtain ⟨k, hk, rfl, hbl, hheap, htk⟩ := hrel
   have HH := Lib.hid hheap
   have HT := Lib.hid htk
   clear hheap htk
   by_cases hlt : k < x.length
   ·obtain ⟨ad, rfl, hbk, hcell⟩ := rd_at ha hlt
    have hlt2 : k < y.length := by have := HL.out; omega
    obtain ⟨bd, rfl, hbk2, hcell2⟩ := rd_at hb hlt2
    have h1 : wr.cell? (ad.add k) = some (.int .i64 x[k]) := by rw [← hcell]; simp [World.cell?, HH.out]
    have h2 : wr.cell? (bd.add k) = some (.int .i64 y[k]) := by rw [← hcell2]; simp [World.cell?, HH.out]
    have h3 : (k : Int) < x.length := by omega
    have h4 : (k : Int) < y.length := by omega
    obtain ⟨p, hp⟩ : ∃ p, p = x[k] := ⟨_, rfl⟩
    obtain ⟨q, hq⟩ : ∃ q, q = y[k] := ⟨_, rfl⟩
    rw [← hp] at h1
    rw [← hq] at h2
    have HP := Lib.hid hp
    have HQ := Lib.hid hq
    clear hp hq hcell hcell2
    by_cases hpq : p = q
    ·have g1 : (p != q) = false := by simpa using hpq
     have hts : x.take (k + 1) = y.take (k + 1) := by
      rw [List.take_succ_eq_append_getElem hlt, List.take_succ_eq_append_getElem hlt2, HT.out, ← HP.out, ← HQ.out, hpq]
     have hts2 := Lib.hid hts
     clear hpq hts
     go_wp2_with fail
     go_quiet (fail)
     go_wp2
     go_roundw
     case rel => exact ⟨k + 1, by omega, by go_num, below_drewN hbl _, HH.out, hts2.out⟩
     case measure => simp [intOf]; omega
    ·have g1 : (p != q) = true := by simpa using hpq
     have hne : decide (x = y) = false := by
      simp only [decide_eq_false_iff_not]
      rintro rfl
      exact hpq (HP.out.trans HQ.out.symm)
     have hne2 := Lib.hid hne
     clear hpq hne
     go_wp2_with fail
     go_quiet (fail)
     go_wp2
     go_ret
     exact ⟨ret_bool hne2.out.symm, below_drewN hbl _⟩
   ·have he : decide (x = y) = true := by
     simp only [decide_eq_true_eq]
     have := HT.out
     rw [List.take_of_length_le (by omega), List.take_of_length_le (by have := HL.out; omega)] at this
     exact this
    have HE := Lib.hid he
    clear he
    go_wp2
    go_ret
    exact ⟨ret_bool HE.out.symm, hbl⟩
 ·have hl2 : ((x.length : Int) != (y.length : Int)) = true := by simp; omega
  have hne : decide (x = y) = false := by
   simp only [decide_eq_false_iff_not]
   rintro rfl
   exact hl rfl
  have hne2 := Lib.hid hne
  clear hl hne
  go_enter Tryz.func80, Tryz.ntmps80
  go_wp2
  go_ret
  exact ⟨ret_bool hne2.out.symm, Below.refl _ _⟩
end Go.Proofs.YteehkcpokgeipaaGreatDoor
