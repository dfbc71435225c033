/- The statements' own helper Owned: rows of bytes, each in a block of its own, are written over without another one changing. Condition: no two rows lie in one block. -/
import Derived.Test.YteehkcpokgeipaaGreatDoorPut
import Derived.Lib.AppendStr
set_option linter.unusedVariables false
namespace Go.Proofs.YteehkcpokgeipaaGreatDoor
open Go.RowKit Oct
theorem maxI_eq : (9223372036854775807 : Int) = (maxI : Int) := rfl
theorem maxU_eq : (18446744073709551615 : Int) = (maxU : Int) := rfl
theorem maxI_lt : maxI < 2 ^ 64 := by decide
theorem maxU_lt : maxU < 2 ^ 64 := by decide
theorem count_at (g a m : Nat) (M : Int) (hM : M = (m : Int)) (A : Option Addr) (l : List UInt8) (c : Nat) (w : World) (h : Tk w g a 0 (.slice A l.length c)) (hm : m < 2 ^ 64) (ha : a ≤ l.length) (hl : l.length ≤ 4611686018427387904)
  (hr : Rd w g A (cells l)) :
  Calls Tryz.prog 126 #[.pointer (some ⟨g, 0, none⟩), .int .u64 M] w fun e' w' => e' = .returned (.int .u64 (cnt m (l.drop a)).1) ∧
   Tk w' g (a + (cnt m (l.drop a)).2.1 : Nat) (cnt m (l.drop a)).2.2 (.slice A l.length c) ∧ w.grownBy w' (some g) := by
 subst hM
 exact count_any g a m A l c w h hm ha hl hr
theorem tk_new (w : World) (s : Value) : Tk (w.alloc (.cells #[.int .i64 0, .int .i64 0, s] 140)) w.heap.size 0 0 s := Blk.new _ _ _
theorem below_box {w w1 : World} {o : Obj} (h : (w.alloc o).grownBy w1 (some w.heap.size)) : Below w.heap.size w w1 :=
 ((Below.refl _ w).alloc (Nat.le_refl _) o).trans ⟨h.os, h.tape, h.output, h.size, fun k hk => h.block k (by simp; omega) (by simp; omega)⟩
theorem usedOf_cast (a : Nat) (e : Int) : usedOf (a : Int) e = ((if e = 0 then a else 0 : Nat) : Int) := by
 unfold usedOf
 split <;> rfl
set_option maxRecDepth 100000 in
theorem takeUint_any (A : Option Addr) (l : List UInt8) (c : Nat) (w : World) (hr : Rd w w.heap.size A (cells l)) (hl : l.length ≤ 4611686018427387904) :
  Calls Tryz.prog 180 #[.slice A l.length c] w fun e w' => e = .returned (.tuple #[.int .i64 (takeU maxI l).1, .int .i64 (takeU maxI l).2.1, .int .i64 (takeU maxI l).2.2]) ∧ Below w.heap.size w w' := by
 go_enter Tryz.func180, Tryz.ntmps180
 go_wp2_with fail
 refine (count_at w.heap.size 0 maxI _ maxI_eq A l c _ (tk_new _ _) maxI_lt (by omega) hl (hr.alloc (Nat.le_refl _) _)).mono ?_
 rintro e w1 ⟨rfl, htk, hg⟩
 have hb := below_box hg
 rw [List.drop_zero, Nat.zero_add] at htk
 rw [List.drop_zero]
 have hle : (cnt maxI l).1 ≤ 9223372036854775807 := cnt_le maxI l
 obtain ⟨h0, h1, h2, f0, f1⟩ := tk_cells htk
 clear hg
 go_wp2_with fail
 go_quiet ((go_at_call 97; exact Calls.quiet_of_same (used_any _ _ _ _ _ (htk.drewN _))))
 go_wp2
 go_ret3
 exact ⟨ret3 rfl (congrArg (Value.int .i64) (usedOf_cast _ _)) rfl, below_drewN hb _⟩
theorem number_fold (u : Nat) (hu : u ≤ maxU) : bits .xor .i64 (wrap64 ((u : Int) / 2)) (wrap64 (-wrap64 (bits .and .u64 (u : Int) 1))) = unfold1 u := by
 have hu' : u ≤ 18446744073709551615 := hu
 have h1 : bits .and .u64 (u : Int) 1 = ((u % 2 : Nat) : Int) := by
  have := u64_and_nat u 1 (by omega) (by omega)
  rw [show ((1 : Nat) : Int) = 1 from rfl] at this
  rw [this, Nat.and_one_is_mod]
 have h2 : wrap64 ((u : Int) / 2) = ((u / 2 : Nat) : Int) := by
  rw [IntWalk.wrap64_in _ ⟨by omega, by omega⟩]
  omega
 rw [h1, h2]
 have hb : (BitVec.ofInt 64 ((u / 2 : Nat) : Int)).toNat = u / 2 := by
  rw [BitVec.ofInt_natCast, BitVec.toNat_ofNat]
  exact Nat.mod_eq_of_lt (by omega)
 rcases Nat.mod_two_eq_zero_or_one u with h | h
 ·rw [h]
  have h3 : wrap64 (-wrap64 ((0 : Nat) : Int)) = 0 := by unfold wrap64; decide
  rw [h3]
  show IntKind.i64.wrap ((BitVec.ofInt 64 ((u / 2 : Nat) : Int) ^^^ BitVec.ofInt 64 0).toNat : Int) = _
  have h4 : BitVec.ofInt 64 ((u / 2 : Nat) : Int) ^^^ BitVec.ofInt 64 0 = BitVec.ofInt 64 ((u / 2 : Nat) : Int) := by
   rw [show BitVec.ofInt 64 0 = 0#64 from rfl, BitVec.xor_zero]
  rw [h4, hb, IntKind.wrap_i64, unfold1, if_pos h]
  omega
 ·rw [h]
  have h3 : wrap64 (-wrap64 ((1 : Nat) : Int)) = -1 := by unfold wrap64; decide
  rw [h3]
  show IntKind.i64.wrap ((BitVec.ofInt 64 ((u / 2 : Nat) : Int) ^^^ BitVec.ofInt 64 (-1)).toNat : Int) = _
  have h4 : BitVec.ofInt 64 ((u / 2 : Nat) : Int) ^^^ BitVec.ofInt 64 (-1) = ~~~ (BitVec.ofInt 64 ((u / 2 : Nat) : Int)) := by
   rw [show BitVec.ofInt 64 (-1) = BitVec.allOnes 64 from rfl, BitVec.xor_allOnes]
  rw [h4, BitVec.toNat_not, hb, IntKind.wrap_i64, unfold1, if_neg (by omega)]
  omega
set_option maxRecDepth 100000 in
theorem number_any (g a : Nat) (A : Option Addr) (l : List UInt8) (c : Nat) (w : World) (h : Tk w g a 0 (.slice A l.length c)) (ha : a ≤ l.length) (hl : l.length ≤ 4611686018427387904) (hr : Rd w g A (cells l)) :
  Calls Tryz.prog 96 #[.pointer (some ⟨g, 0, none⟩)] w fun e' w' => e' = .returned (.int .i64 (unfold1 (cnt maxU (l.drop a)).1)) ∧
   Tk w' g (a + (cnt maxU (l.drop a)).2.1 : Nat) (cnt maxU (l.drop a)).2.2 (.slice A l.length c) ∧ w.grownBy w' (some g) := by
 go_enter Tryz.func96, Tryz.ntmps96
 go_wp2_with fail
 refine (count_at g a maxU _ maxU_eq A l c _ h maxU_lt ha hl hr).mono ?_
 rintro e w1 ⟨rfl, htk, hg⟩
 have hle := Lib.hid (cnt_le maxU (l.drop a))
 go_wp2
 go_ret
 exact ⟨ret_int (number_fold _ hle.out), htk, hg⟩
set_option maxRecDepth 100000 in
theorem takeInt_any (A : Option Addr) (l : List UInt8) (c : Nat) (w : World) (hr : Rd w w.heap.size A (cells l)) (hl : l.length ≤ 4611686018427387904) :
  Calls Tryz.prog 51 #[.slice A l.length c] w fun e w' => e = .returned (.tuple #[.int .i64 (unfold1 (takeU maxU l).1), .int .i64 (takeU maxU l).2.1, .int .i64 (takeU maxU l).2.2]) ∧ Below w.heap.size w w' := by
 go_enter Tryz.func51, Tryz.ntmps51
 go_wp2_with fail
 refine (number_any w.heap.size 0 A l c _ (tk_new _ _) (by omega) hl (hr.alloc (Nat.le_refl _) _)).mono ?_
 rintro e w1 ⟨rfl, htk, hg⟩
 have hb := below_box hg
 rw [List.drop_zero, Nat.zero_add] at htk
 rw [List.drop_zero]
 obtain ⟨h0, h1, h2, f0, f1⟩ := tk_cells htk
 clear hg
 go_wp2_with fail
 go_quiet ((go_at_call 97; exact Calls.quiet_of_same (used_any _ _ _ _ _ (htk.drewN _))))
 go_wp2
 go_ret3
 exact ⟨ret3 rfl (congrArg (Value.int .i64) (usedOf_cast _ _)) rfl, below_drewN hb _⟩
def lenOf (m : Nat) (l : List UInt8) : Nat × Int := if (cnt maxI l).2.2 = 0 then (if m < (cnt maxI l).1 then (0, 2) else ((cnt maxI l).1, 0)) else (0, (cnt maxI l).2.2)
theorem lenOf_err (m : Nat) (l : List UInt8) (h : (cnt maxI l).2.2 ≠ 0) : lenOf m l = (0, (cnt maxI l).2.2) := if_neg h
theorem lenOf_long (m : Nat) (l : List UInt8) (h : (cnt maxI l).2.2 = 0) (h2 : m < (cnt maxI l).1) : lenOf m l = (0, 2) := by unfold lenOf; rw [if_pos h, if_pos h2]
theorem lenOf_ok (m : Nat) (l : List UInt8) (h : (cnt maxI l).2.2 = 0) (h2 : ¬ m < (cnt maxI l).1) : lenOf m l = ((cnt maxI l).1, 0) := by unfold lenOf; rw [if_pos h, if_neg h2]
set_option maxRecDepth 100000 in
theorem length_any (g m : Nat) (A : Option Addr) (l : List UInt8) (c : Nat) (w : World) (h : Tk w g 0 0 (.slice A l.length c)) (hl : l.length ≤ 4611686018427387904) (hr : Rd w g A (cells l)) (hm : m ≤ 65536) :
  Calls Tryz.prog 98 #[.pointer (some ⟨g, 0, none⟩), .int .i64 m] w fun e' w' => e' = .returned (.int .i64 (lenOf m l).1) ∧
   Tk w' g ((cnt maxI l).2.1 : Nat) (lenOf m l).2 (.slice A l.length c) ∧ w.grownBy w' (some g) := by
 have hle : (cnt maxI l).1 ≤ 9223372036854775807 := cnt_le maxI l
 by_cases he : (cnt maxI l).2.2 = 0
 ·by_cases hlt : m < (cnt maxI l).1
  ·rw [lenOf_long m l he hlt]
   go_enter Tryz.func98, Tryz.ntmps98
   go_wp2_with fail
   refine (count_at g 0 maxI _ maxI_eq A l c _ h maxI_lt (by omega) hl hr).mono ?_
   rintro e w1 ⟨rfl, htk, hg⟩
   rw [List.drop_zero, he, Nat.zero_add] at htk
   rw [List.drop_zero]
   have HE := Lib.hid he
   clear he
   go_wp2_with fail
   refine (wrong_yes g _ 2 _ _ htk (by omega)).mono ?_
   rintro e w2 ⟨rfl, htk2, hg2⟩
   go_wp2
   go_ret
   exact ⟨rfl, htk2, grown_then hg hg2 (.inl rfl)⟩
  ·rw [lenOf_ok m l he hlt]
   go_enter Tryz.func98, Tryz.ntmps98
   go_wp2_with fail
   refine (count_at g 0 maxI _ maxI_eq A l c _ h maxI_lt (by omega) hl hr).mono ?_
   rintro e w1 ⟨rfl, htk, hg⟩
   rw [List.drop_zero, he, Nat.zero_add] at htk
   rw [List.drop_zero]
   have HE := Lib.hid he
   clear he
   have hnd : decide (m < (cnt maxI l).1) = false := by simpa using hlt
   go_wp2_with fail
   refine (wrong_no g _ 2 _ _ htk).mono ?_
   rintro e w2 ⟨rfl, rfl⟩
   go_wp2
   go_ret
   exact ⟨rfl, htk, hg⟩
 ·rw [lenOf_err m l he]
  go_enter Tryz.func98, Tryz.ntmps98
  go_wp2_with fail
  refine (count_at g 0 maxI _ maxI_eq A l c _ h maxI_lt (by omega) hl hr).mono ?_
  rintro e w1 ⟨rfl, htk, hg⟩
  rw [List.drop_zero, Nat.zero_add] at htk
  rw [List.drop_zero]
  have HE := Lib.hid he
  clear he
  go_wp2_with fail
  refine (wrong_err g _ _ 2 _ _ _ htk HE.out).mono ?_
  rintro e w2 ⟨rfl, rfl⟩
  go_wp2
  go_ret
  exact ⟨rfl, htk, hg⟩
end Go.Proofs.YteehkcpokgeipaaGreatDoor
set_option linter.unusedVariables false
namespace Go.Proofs.YteehkcpokgeipaaGreatDoor
open Go.RowKit Oct
def tz (l : List UInt8) : Nat → Nat → List Int → List Int × Nat × Int
 | 0, a, acc => (acc, a, 0)
 | n + 1, a, acc => if (cnt maxU (l.drop a)).2.2 = 0 then tz l n (a + (cnt maxU (l.drop a)).2.1) (acc ++ [unfold1 (cnt maxU (l.drop a)).1]) else ([], 0, (cnt maxU (l.drop a)).2.2)
def takeZ (l : List UInt8) : List Int × Nat × Int :=
 if (lenOf 4096 l).2 = 0 then tz l (lenOf 4096 l).1 (cnt maxI l).2.1 [] else ([], 0, (lenOf 4096 l).2)
end Go.Proofs.YteehkcpokgeipaaGreatDoor
set_option linter.unusedVariables false
namespace Go.Proofs.YteehkcpokgeipaaGreatDoor
open Go.RowKit Oct
theorem info_int : (Tryz.prog.info? 3).map (fun i => (i.zero, i.size, i.bytes)) = some (some (.int .i64 0), 1, 8) := by kernel_rfl
abbrev Is (w : World) (base : Nat) (v : Value) (z : List Int) : Prop := Own w base 3 v (z.map (Value.int .i64))
theorem lenOf_le (m : Nat) (l : List UInt8) : (lenOf m l).1 ≤ m := by
 unfold lenOf
 split
 ·split
  ·simp
  ·rename_i h; simpa using h
 ·simp
def ZInv (l : List UInt8) (k : Nat) (a e : Int) (acc : List Int) : Prop :=
 (e = 0 ∧ ∃ b : Nat, a = b ∧ b ≤ l.length ∧ takeZ l = tz l k b acc) ∨ (e ≠ 0 ∧ takeZ l = ([], 0, e))
set_option maxHeartbeats 1000000 in
set_option maxRecDepth 100000 in
theorem takeInts_any (A : Option Addr) (l : List UInt8) (c : Nat) (w : World) (hr : Rd w w.heap.size A (cells l)) (hl : l.length ≤ 4611686018427387904) :
  Calls Tryz.prog 52 #[.slice A l.length c] w fun e w' => ∃ v, e = .returned (.tuple #[v, .int .i64 (takeZ l).2.1, .int .i64 (takeZ l).2.2]) ∧ Is w' w.heap.size v (takeZ l).1 ∧ Below w.heap.size w w' := by
 go_enter Tryz.func52, Tryz.ntmps52
 go_wp2_with fail
 refine (length_any w.heap.size 4096 A l c _ (tk_new _ _) hl (hr.alloc (Nat.le_refl _) _) (by omega)).mono ?_
 rintro e w1 ⟨rfl, htk, hg⟩
 have hb := below_box hg
 clear hg
 have hstart : ZInv l (lenOf 4096 l).1 (cnt maxI l).2.1 (lenOf 4096 l).2 [] := by
  by_cases he : (lenOf 4096 l).2 = 0
  ·exact .inl ⟨he, _, rfl, cnt_used _ _, if_pos he⟩
  ·exact .inr ⟨he, if_neg he⟩
 have hn := lenOf_le 4096 l
 have htk' := Lib.hid htk
 clear htk
 go_wp2_with fail
 go_loopw [6, 7] (fun v n wr => ∃ (k : Nat) (a e : Int) (acc : List Int), n = .int .i64 k ∧ k + acc.length ≤ 4096 ∧ Tk wr w.heap.size a e (.slice A l.length c) ∧ Own wr (w.heap.size + 1) 3 v (acc.map (Value.int .i64)) ∧ Below w.heap.size w wr ∧ ZInv l k a e acc)
  (fun _ n _ => (intOf n).toNat)
 case atStart => exact ⟨(lenOf 4096 l).1, _, _, [], rfl, by simpa using hn, htk'.out, Own.nil _ _ _, hb, hstart⟩
 case round =>
  clear hb hstart hn htk'
  obtain ⟨k, a, e, acc, rfl, hk, htk, hown, hb, hinv⟩ := hrel
  obtain ⟨h0, h1, h2, f0, f1⟩ := tk_cells htk
  have hsz := htk.lt
  rcases hinv with ⟨rfl, b, rfl, hbl, hz⟩ | ⟨he, hz⟩
  ·have HZ := Lib.hid hz
   clear hz
   by_cases hk0 : 0 < k
   ·have hcu := cnt_used maxU (l.drop b)
    rw [List.length_drop] at hcu
    go_wp2_with fail
    refine (number_any w.heap.size b A l c _ htk hbl hl (hr.below hb)).mono ?_
    rintro e' w2 ⟨rfl, htk2, hg2⟩
    have hown2 := hown.far hg2 (by omega)
    have hb2 : Below w.heap.size w w2 := hb.grown hg2 (by omega) (by simp)
    have hsz2 := htk2.lt
    clear htk hown hb hg2 h0 h1 h2 f0 f1
    go_wp2_with (at_builtin; refine wpList_push rfl (.tmp 25) (.tmp 28) 26 rfl (w.heap.size + 1) 3 (.int .i64 0) 8 Tryz.underlying26 info_int rfl _ _ _ _ rfl rfl hown2 rfl rfl (by rw [List.length_map]; omega) (by rw [List.length_map]; omega) (by omega) ?_)
    intro v' w3 hown3 hg3 hf3
    have htk3 : Tk w3 w.heap.size _ _ _ := htk2.grown hg3 (fun h => by have := (hown2.lt _ h.symm).1; omega)
    have hb3 : Below w.heap.size w w3 := hb2.grown hg3 (by omega) (fun k hk => by have := (hown2.lt _ hk).1; omega)
    have hown4 : Own w3 (w.heap.size + 1) 3 v' ((acc ++ [unfold1 (cnt maxU (l.drop b)).1]).map (Value.int .i64)) := by rw [List.map_append]; exact hown3
    have hinv2 : ZInv l (k - 1) (b + (cnt maxU (l.drop b)).2.1 : Nat) (cnt maxU (l.drop b)).2.2 (acc ++ [unfold1 (cnt maxU (l.drop b)).1]) := by
     obtain ⟨k', rfl⟩ : ∃ k', k = k' + 1 := ⟨k - 1, by omega⟩
     by_cases he : (cnt maxU (l.drop b)).2.2 = 0
     ·refine .inl ⟨he, _, rfl, by omega, ?_⟩
      rw [HZ.out, tz, if_pos he]
      rfl
     ·exact .inr ⟨he, by rw [HZ.out, tz, if_neg he]⟩
    clear htk2 hown2 hb2 hown3 hg3 hf3
    go_wp2
    go_roundw
    case rel => exact ⟨k - 1, _, _, _, by go_num, by simp; omega, htk3, hown4, hb3, hinv2⟩
    case measure => simp [intOf]; omega
   ·obtain rfl : k = 0 := by omega
    go_wp2_with fail
    go_quiet (fail)
    go_wp2
    go_ret3
    rw [HZ.out, tz]
    exact ⟨_, rfl, hown.mono (by omega), below_drewN hb _⟩
  ·have HZ := Lib.hid hz
   clear hz
   have he1 : (e == 0) = false := by simpa using he
   have he2 : (e != 0) = true := by simpa using he
   by_cases hk0 : 0 < k
   ·go_wp2_with fail
    go_quiet (fail)
    go_wp2
    go_ret3
    rw [HZ.out]
    exact ⟨_, rfl, Own.nil _ _ _, below_drewN hb _⟩
   ·go_wp2_with fail
    go_quiet (fail)
    go_wp2
    go_ret3
    rw [HZ.out]
    exact ⟨_, rfl, Own.nil _ _ _, below_drewN hb _⟩
end Go.Proofs.YteehkcpokgeipaaGreatDoor
set_option linter.unusedVariables false
namespace Go.Proofs.YteehkcpokgeipaaGreatDoor
open Go.RowKit Oct
def LentAt (w : World) (g : Nat) (l : List UInt8) : Prop := Blk w g 5 (cells l ++ [Value.int .u8 77]).toArray
def zeros (n : Nat) : Array Value := madeCells #[.int .u8 0] n
theorem zeros_eq (n : Nat) : zeros n = (List.replicate n (Value.int .u8 0)).toArray := by
 have := toList_madeCells_one (.int .u8 0) n
 unfold zeros
 rw [← this]
theorem bytes_one (l : List UInt8) : ∀ u ∈ cells l, u.oneCell' = true := by
 intro u hu
 obtain ⟨_, _, rfl⟩ := List.mem_map.1 hu
 rfl
set_option maxRecDepth 100000 in
theorem lent_any (A : Option Addr) (l : List UInt8) (c : Nat) (w : World) (hr : Rd w w.heap.size A (cells l)) (hl : l.length ≤ 140737488351232) :
  Calls Tryz.prog 71 #[.slice A l.length c] w fun e w' => e = .returned (.slice (some ⟨w.heap.size, 0, none⟩) l.length (l.length + 1)) ∧ LentAt w' w.heap.size l ∧ Below w.heap.size w w' := by
 have hmk : ∀ W : World, (Instr.makeSlice 27 (.int .i64 (l.length : Int)) (.int .i64 ((l.length : Int) + 1))).run Tryz.prog W = .ok (.slice (some ⟨W.heap.size, 0, none⟩) l.length (l.length + 1)) (W.alloc (.cells (zeros (l.length + 1)) 5)) :=
  fun W => run_make_one (P := Tryz.prog) Tryz.underlying27 info_u8 l.length (l.length + 1) (l.length : Int) ((l.length : Int) + 1) rfl (by simp) (by omega) (by omega) (by omega) W
 go_enter Tryz.func71, Tryz.ntmps71
 have hblk : Blk (w.alloc (.cells (zeros (l.length + 1)) 5)) w.heap.size 5 (List.replicate (l.length + 1) (Value.int .u8 0)).toArray := by rw [← zeros_eq]; exact Blk.new _ _ _
 have hb0 : Below w.heap.size w (w.alloc (.cells (zeros (l.length + 1)) 5)) := (Below.refl _ _).alloc (Nat.le_refl _) _
 have hr0 : Rd (w.alloc (.cells (zeros (l.length + 1)) 5)) w.heap.size A (cells l) := hr.below hb0
 have HB := Lib.hid hblk
 clear hblk
 go_wp2_with (with_reducible refine wpList_copy_head rfl (.tmp 10) (.tmp 11) 27 27 rfl 5 _ 1 Tryz.underlying27 info_u8 w.heap.size l.length (l.length + 1) A l.length c rfl rfl _ 5 HB.out w.heap.size (cells l) (cells_length l).symm hr0 (Nat.le_refl _) (by simp) (bytes_one l) ?_)
 intro w1 hblk1 hg1
 have hb1 : Below w.heap.size w w1 := hb0.grown hg1 hb0.size (by simp)
 have hc1 : w1.cell? ⟨w.heap.size, l.length, none⟩ = some (.int .u8 0) := by rw [hblk1.cell]; simp [cells]
 have hf1 := hblk1.frozen l.length
 have hbl2 : LentAt (w1.setCell ⟨w.heap.size, l.length, none⟩ (.int .u8 77)) w.heap.size l := by
  have := hblk1.set_ l.length (.int .u8 77)
  unfold LentAt
  rw [show (cells l ++ [Value.int .u8 77]).toArray = (cells l ++ [Value.int .u8 0]).toArray.setIfInBounds l.length (.int .u8 77) by simp [cells]]
  exact this
 have hb2 : Below w.heap.size w (w1.setCell ⟨w.heap.size, l.length, none⟩ (.int .u8 77)) := hb1.setCell (Nat.le_refl _) _
 clear HB hblk1 hg1 hb0 hb1 hr0 hr
 go_wp2
 go_ret
 exact ⟨rfl, hbl2, hb2⟩
set_option maxRecDepth 100000 in
theorem kept_any (g : Nat) (A : Option Addr) (l : List UInt8) (c B : Nat) (w : World) (hb : LentAt w g l) (hr : Rd w B A (cells l)) (hl : l.length ≤ 140737488351232) :
  Calls Tryz.prog 81 #[.slice (some ⟨g, 0, none⟩) l.length (l.length + 1), .slice A l.length c] w fun e w' => e = .returned (.bool true) ∧ w = w' := by
 have k1 := str_of (w := w) (l := l) (A := some ⟨g, 0, none⟩) (B := w.heap.size) (l.length + 1) (by
  intro _
  refine ⟨_, rfl, Blk.lt hb, fun j u hu => ?_⟩
  rw [show (⟨g, 0, none⟩ : Addr).add j = ⟨g, j, none⟩ by simp [Addr.add_lit], Blk.cell hb]
  have hj : j < (cells l).length := (List.getElem?_eq_some_iff.1 hu).1
  simp only [List.getElem?_toArray]
  rw [List.getElem?_append_left hj]
  exact hu)
 have k2 := str_of c hr
 have hc : w.cell? ⟨g, l.length, none⟩ = some (.int .u8 77) := by rw [Blk.cell hb]; simp [cells]
 clear hb hr
 go_enter Tryz.func81, Tryz.ntmps81
 go_wp2
 go_ret
 exact ⟨rfl, rfl⟩
end Go.Proofs.YteehkcpokgeipaaGreatDoor
set_option linter.unusedVariables false
namespace Go.Proofs.YteehkcpokgeipaaGreatDoor
open Go.RowKit Oct
theorem xor_ones (x : Nat) (h : x < 18446744073709551616) : x ^^^ 18446744073709551615 = 18446744073709551615 - x := by
 have h1 : (BitVec.ofNat 64 x ^^^ BitVec.allOnes 64).toNat = x ^^^ 18446744073709551615 := by
  rw [BitVec.toNat_xor, BitVec.toNat_ofNat, BitVec.toNat_allOnes, Nat.mod_eq_of_lt (by omega)]
 rw [← h1, BitVec.xor_allOnes, BitVec.toNat_not, BitVec.toNat_ofNat, Nat.mod_eq_of_lt (by omega)]
theorem folded_eq (n : Int) (h : -9223372036854775808 ≤ n ∧ n ≤ 9223372036854775807) :
  bits .xor .u64 (IntKind.u64.wrap (IntKind.u64.wrap n * 2)) (IntKind.u64.wrap (n / 9223372036854775808)) = ((fold1 n : Nat) : Int) := by
 have hw : ∀ x : Int, IntKind.u64.wrap x = x % 18446744073709551616 := fun x => by simp [IntKind.wrap, IntKind.bits, IntKind.signed]
 by_cases hn : 0 ≤ n
 ·obtain ⟨k, rfl⟩ := Int.eq_ofNat_of_zero_le hn
  rw [hw, hw, hw, show ((k : Int) % 18446744073709551616 * 2) % 18446744073709551616 = ((2 * k : Nat) : Int) by omega, show ((k : Int) / 9223372036854775808) % 18446744073709551616 = ((0 : Nat) : Int) by omega,
   u64_xor_nat _ _ (by omega) (by omega), Nat.xor_zero, fold1, if_pos hn]
  simp
 ·obtain ⟨k, hk⟩ : ∃ k : Nat, n = -(k : Int) - 1 := ⟨(-(n + 1)).toNat, by omega⟩
  subst hk
  rw [hw, hw, hw, show ((-(k : Int) - 1) % 18446744073709551616 * 2) % 18446744073709551616 = ((18446744073709551614 - 2 * k : Nat) : Int) by omega,
   show ((-(k : Int) - 1) / 9223372036854775808) % 18446744073709551616 = ((18446744073709551615 : Nat) : Int) by omega,
   u64_xor_nat _ _ (by omega) (by omega), fold1, if_neg hn]
  have h2 : (18446744073709551614 - 2 * k) ^^^ 18446744073709551615 = 2 * k + 1 := by
   rw [xor_ones _ (by omega)]
   omega
  rw [h2]
  congr 1
  omega
theorem fold1_lt (n : Int) (h : -9223372036854775808 ≤ n ∧ n ≤ 9223372036854775807) : fold1 n < 2 ^ 64 := by
 unfold fold1
 split <;> omega
set_option maxRecDepth 100000 in
theorem folded_any (n : Int) (h : -9223372036854775808 ≤ n ∧ n ≤ 9223372036854775807) (w : World) :
  Calls Tryz.prog 94 #[.int .i64 n] w fun e w' => e = .returned (.int .u64 (fold1 n : Nat)) ∧ w = w' := by
 have H := Lib.hid h
 clear h
 go_enter Tryz.func94, Tryz.ntmps94
 go_wp2
 go_ret
 exact ⟨ret_int (folded_eq n H.out), rfl⟩
theorem int_any (n : Int) (h : -9223372036854775808 ≤ n ∧ n ≤ 9223372036854775807) (w : World) :
  Calls Tryz.prog 50 #[.int .i64 n] w fun e w' => ∃ v, e = .returned v ∧ Bs w' w.heap.size v (enc (fold1 n)) ∧ Below w.heap.size w w' := by
 have hlt := Lib.hid (fold1_lt n h)
 have H := Lib.hid h
 clear h
 go_enter Tryz.func50, Tryz.ntmps50
 go_wp2_with fail
 refine (folded_any n H.out _).mono ?_
 rintro e w1 ⟨rfl, rfl⟩
 go_wp2_with fail
 refine (put_any (.slice none 0 0) [] (fold1 n) w.heap.size w hlt.out (by simp) (Nat.le_refl _) (Own.nil _ _ _)).mono ?_
 rintro e w1 ⟨v, rfl, hown, hg, _⟩
 have hb := below_of_grown hg
 clear hg
 go_wp2
 go_ret
 exact ⟨v, rfl, hown, hb⟩
def encs : List Int → List UInt8
 | [] => []
 | n :: r => enc (fold1 n) ++ encs r
theorem encs_snoc (l : List Int) (n : Int) : encs (l ++ [n]) = encs l ++ enc (fold1 n) := by
 induction l with
 | nil => simp [encs]
 | cons a r ih => simp [encs, ih]
set_option maxRecDepth 100000 in
theorem ints_long (A : Option Addr) (n c : Nat) (w : World) (h : 4096 < n) (h2 : n ≤ 9223372036854775807) :
  Calls Tryz.prog 48 #[.slice A n c] w fun e w' => e = .returned (.tuple #[.slice none 0 0, .int .i64 2]) ∧ w = w' := by
 go_enter Tryz.func48, Tryz.ntmps48
 go_wp2
 go_ret2
 exact ⟨rfl, rfl⟩
theorem encs_len (z : List Int) (hz : ∀ n ∈ z, -9223372036854775808 ≤ n ∧ n ≤ 9223372036854775807) : (encs z).length ≤ 10 * z.length := by
 induction z with
 | nil => simp [encs]
 | cons a r ih =>
  have h1 := ih (fun n hn => hz n (by simp [hn]))
  have h2 := enc_len (fold1 a) (fold1_lt a (hz a (by simp)))
  simp [encs]
  omega
set_option maxRecDepth 100000 in
theorem ints_ok (A : Option Addr) (z : List Int) (c : Nat) (w : World) (hr : Rd w w.heap.size A (z.map (Value.int .i64))) (hz : ∀ n ∈ z, -9223372036854775808 ≤ n ∧ n ≤ 9223372036854775807) (h : z.length ≤ 4096) :
  Calls Tryz.prog 48 #[.slice A z.length c] w fun e w' => ∃ v, e = .returned (.tuple #[v, .int .i64 0]) ∧ Bs w' w.heap.size v (enc z.length ++ encs z) ∧ Below w.heap.size w w' := by
 have HZ := Lib.hid hz
 clear hz
 go_enter Tryz.func48, Tryz.ntmps48
 go_wp2_with fail
 refine (put_any (.slice none 0 0) [] z.length w.heap.size w (by omega) (by simp) (Nat.le_refl _) (Own.nil _ _ _)).mono ?_
 rintro e w1 ⟨v, rfl, hown, hg, _⟩
 have hb := below_of_grown hg
 have hlen := enc_len z.length (by omega)
 rw [List.nil_append] at hown
 clear hg
 go_wp2_with fail
 go_loopw [4, 6, 16] (fun v x i wr => ∃ k : Nat, k ≤ z.length ∧ i = .int .i64 k ∧ Bs wr w.heap.size v (enc z.length ++ encs (z.take k)) ∧ Below w.heap.size w wr) (fun _ _ i _ => z.length - (intOf i).toNat)
 case atStart => exact ⟨0, by omega, rfl, by simpa [encs] using hown, hb⟩
 case round =>
  clear hown hb
  obtain ⟨k, hk, rfl, hown, hb⟩ := hrel
  by_cases hlt : k < z.length
  ·obtain ⟨ad, rfl, hbk, hcell⟩ := rd_at hr hlt
   have hcw : wr.cell? (ad.add k) = some (.int .i64 z[k]) := (hb.cell (by rw [block_of_add]; exact hbk)).trans hcell
   have hzk := HZ.out z[k] (List.getElem_mem hlt)
   have HB := Lib.hid hzk
   have hts : z.take (k + 1) = z.take k ++ [z[k]] := by rw [List.take_succ_eq_append_getElem hlt]
   have HT := Lib.hid hts
   have hel := encs_len (z.take k) (fun n hn => HZ.out n (List.mem_of_mem_take hn))
   rw [List.length_take] at hel
   have hsz := hb.size
   have hfl := Lib.hid (fold1_lt _ hzk)
   clear hzk hts hcell
   generalize z[k] = x at *
   go_wp2_with fail
   refine (folded_any x HB.out _).mono ?_
   rintro e w2 ⟨rfl, rfl⟩
   go_wp2_with fail
   refine (put_any _ _ (fold1 x) w.heap.size wr hfl.out (by simp; omega) hsz hown).mono ?_
   rintro e w2 ⟨v', rfl, hown2, hg2, hf2⟩
   have hb2 : Below w.heap.size w w2 := hb.grown hg2 hsz (fun k hk => (hown.lt k hk).1)
   have hown3 : Bs w2 w.heap.size v' (enc z.length ++ encs (z.take (k + 1))) := by
    rw [HT.out, encs_snoc, ← List.append_assoc]
    exact hown2
   clear hown hb hg2 hf2 hown2
   go_wp2
   go_roundw
   case rel => exact ⟨k + 1, by omega, by go_num, hown3, hb2⟩
   case measure => simp [intOf]; omega
  ·have hkl : z.take k = z := List.take_of_length_le (by omega)
   rw [hkl] at hown
   go_wp2
   go_ret2
   exact ⟨_, rfl, hown, hb⟩
end Go.Proofs.YteehkcpokgeipaaGreatDoor
set_option linter.unusedVariables false
namespace Go.Proofs.YteehkcpokgeipaaGreatDoor
open Go.RowKit Oct
def RowOk (w : World) (base : Nat) (v : Value) : Prop :=
 v = .slice none 0 0 ∨ ∃ g n cap cur, v = .slice (some ⟨g, 0, none⟩) n cap ∧ base ≤ g ∧ Blk w g 5 cur ∧ cap ≤ cur.size ∧ n ≤ cap ∧ cap ≤ 9223372036854775807
def RowFull (w : World) (v : Value) (x : Int) : Prop :=
 v = .slice none 0 0 ∨ ∃ g n cap rest, v = .slice (some ⟨g, 0, none⟩) n cap ∧ Blk w g 5 (List.replicate cap (Value.int .u8 x) ++ rest).toArray ∧ n ≤ cap ∧ cap ≤ 9223372036854775807
structure Others (vs : List Value) (w w' : World) : Prop where
 os : w'.os = w.os
 tape : w'.tape = w.tape
 output : w'.output = w.output
 size : w'.heap.size = w.heap.size
 block : ∀ k, (∀ v ∈ vs, v.ownBlock ≠ some k) → w'.heap[k]? = w.heap[k]?
def Apart (vs : List Value) : Prop := ∀ i j (hi : i < vs.length) (hj : j < vs.length), i ≠ j → ∀ g, vs[i].ownBlock = some g → vs[j].ownBlock ≠ some g
theorem Others.refl (vs : List Value) (w : World) : Others vs w w := ⟨rfl, rfl, rfl, rfl, fun _ _ => rfl⟩
theorem Others.drewN {vs : List Value} {w w' : World} (h : Others vs w w') (n : Nat) : Others vs w (w'.drewN n) := ⟨h.os, h.tape, h.output, h.size, h.block⟩
theorem Others.set {vs : List Value} {w w' : World} (h : Others vs w w') {v : Value} (hv : v ∈ vs) {g : Nat} (hg : v.ownBlock = some g) (i : Nat) (u : Value) : Others vs w (w'.setCell ⟨g, i, none⟩ u) :=
 ⟨h.os, h.tape, h.output, by simp [World.setCell, h.size], fun k hk => (Below.heap_setCell _ _ _ _ (by rintro rfl; exact hk v hv hg)).trans (h.block k hk)⟩
theorem Others.rd {vs : List Value} {w w' : World} (h : Others vs w w') {B : Nat} {A : Option Addr} {xs : List Value} (hr : Rd w B A xs) (hne : ∀ ad, A = some ad → ∀ v ∈ vs, v.ownBlock ≠ some ad.block) : Rd w' B A xs := fun hn => by
 obtain ⟨ad, rfl, hb, hc⟩ := hr hn
 exact ⟨ad, rfl, hb, fun j u hu => (World.cell?_of_block (w := w) (by rw [block_of_add]; exact h.block _ (hne ad rfl))).trans (hc j u hu)⟩
theorem Others.below {vs : List Value} {w w' : World} (h : Others vs w w') {base : Nat} (hb : ∀ v ∈ vs, ∀ k, v.ownBlock = some k → base ≤ k) : Below base w w' :=
 ⟨h.os, h.tape, h.output, by rw [h.size]; exact Nat.le_refl _, fun k hk => h.block k fun v hv hg => by have := hb v hv k hg; omega⟩
theorem RowOk.base {w : World} {base : Nat} {v : Value} (h : RowOk w base v) : ∀ k, v.ownBlock = some k → base ≤ k := by
 rintro k hk
 rcases h with rfl | ⟨g, n, cap, cur, rfl, hb, _⟩
 ·simp [Value.ownBlock] at hk
 ·simp [Value.ownBlock] at hk; omega
theorem RowOk.of_full {w : World} {base : Nat} {v : Value} {x : Int} (h : RowFull w v x) (hb : ∀ k, v.ownBlock = some k → base ≤ k) : RowOk w base v := by
 rcases h with rfl | ⟨g, n, cap, rest, rfl, hblk, hn, hc⟩
 ·exact .inl rfl
 ·exact .inr ⟨g, n, cap, _, rfl, hb g rfl, hblk, by simp, hn, hc⟩
theorem RowOk.keep {w w' : World} {base : Nat} {v : Value} (h : RowOk w base v) (hk : ∀ g, v.ownBlock = some g → w'.heap[g]? = w.heap[g]?) : RowOk w' base v := by
 rcases h with rfl | ⟨g, n, cap, cur, rfl, hb, hblk, r⟩
 ·exact .inl rfl
 ·exact .inr ⟨g, n, cap, cur, rfl, hb, (hk g rfl).trans hblk, r⟩
theorem RowFull.keep {w w' : World} {v : Value} {x : Int} (h : RowFull w v x) (hk : ∀ g, v.ownBlock = some g → w'.heap[g]? = w.heap[g]?) : RowFull w' v x := by
 rcases h with rfl | ⟨g, n, cap, rest, rfl, hblk, r⟩
 ·exact .inl rfl
 ·exact .inr ⟨g, n, cap, rest, rfl, (hk g rfl).trans hblk, r⟩
theorem RowOk.of_own {w : World} {base : Nat} {v : Value} {l : List UInt8} (h : Bs w base v l) : RowOk w base v := by
 rcases Own.whole h with ⟨rfl, _⟩ | ⟨g, cap, cur, rfl, hb, hg, hblk, hn, hc, hs, _⟩
 ·exact .inl rfl
 ·exact .inr ⟨g, _, cap, cur, rfl, hb, hblk, Nat.le_of_eq hs.symm, hn, by unfold maxLen at hc; omega⟩
theorem RowOk.of_lent {w : World} {base g : Nat} {l : List UInt8} (h : LentAt w g l) (hb : base ≤ g) (hl : l.length ≤ 140737488351232) : RowOk w base (.slice (some ⟨g, 0, none⟩) l.length (l.length + 1)) :=
 .inr ⟨g, _, _, _, rfl, hb, h, by simp [cells], by omega, by omega⟩
def byteOf (k : Nat) : Int := ((k : Int) + 1) % 256
theorem fill_step (cap q : Nat) (x : Value) (cur : List Value) (hcs : cap ≤ cur.length) (hq : q < cap) :
  (List.replicate q x ++ cur.drop q).toArray.setIfInBounds q x = (List.replicate (q + 1) x ++ cur.drop (q + 1)).toArray := by
 have h : cur.drop q = cur[q] :: cur.drop (q + 1) := List.drop_eq_getElem_cons (by omega)
 rw [h, List.replicate_succ', List.append_assoc]
 simp only [List.setIfInBounds_toArray]
 rw [List.set_append, if_neg (by simp)]
 simp
 rw [h]
 rfl
set_option maxHeartbeats 1000000 in
set_option maxRecDepth 100000 in
theorem owned_any (A : Option Addr) (vs : List Value) (n c B base : Nat) (hn : n = vs.length) (w : World) (hr : Rd w B A vs) (hok : ∀ v ∈ vs, RowOk w base v) (hap : Apart vs) (hne : ∀ ad, A = some ad → ∀ v ∈ vs, v.ownBlock ≠ some ad.block)
  (hl : vs.length ≤ 4611686018427387904) :
  Calls Tryz.prog 85 #[.slice A n c] w fun e w' => e = .returned (.bool true) ∧ Others vs w w' ∧ ∀ v ∈ vs, RowOk w' base v := by
 subst hn
 have HOK := Lib.hid hok
 have HAP := Lib.hid hap
 have HNE := Lib.hid hne
 clear hok hap hne
 go_enter Tryz.func85, Tryz.ntmps85
 go_wp2_with fail
 go_loopw [3, 4, 5] (fun i y1 y2 wr => ∃ k : Nat, k ≤ vs.length ∧ i = .int .i64 k ∧ Others vs w wr ∧ Hid (∀ j (hj : j < vs.length), (j < k → RowFull wr vs[j] (byteOf j)) ∧ (k ≤ j → RowOk wr base vs[j]))) (fun i _ _ _ => vs.length - (intOf i).toNat)
 case atStart => exact ⟨0, by omega, rfl, Others.refl _ _, Lib.hid fun j hj => ⟨fun h => absurd h (by omega), fun _ => HOK.out _ (List.getElem_mem hj)⟩⟩
 case round =>
  obtain ⟨k, hk, rfl, hoth, hrows⟩ := hrel
  by_cases hlt : k < vs.length
  ·obtain ⟨ad, rfl, hbk, hcell⟩ := (hoth.rd hr HNE.out).at_ hlt
   have hkI : (k : Int) < vs.length := by omega
   rcases (hrows.out k hlt).2 (Nat.le_refl _) with hv | ⟨g, n, cap, cur, hv, hbg, hblk, hcs, hnc, hcap⟩
   ·have hstep : Hid (∀ j (hj : j < vs.length), (j < k + 1 → RowFull wr vs[j] (byteOf j)) ∧ (k + 1 ≤ j → RowOk wr base vs[j])) := Lib.hid fun j hj => ⟨fun h => by
     by_cases hjk : j = k
     ·subst hjk; exact .inl hv
     ·exact (hrows.out j hj).1 (by omega), fun h => (hrows.out j hj).2 (by omega)⟩
    rw [hv] at hcell
    have HV := Lib.hid hv
    clear hv hrows
    go_wp2_with fail
    go_quiet (fail)
    go_wp2_with fail
    refine wp_loop_rounds 1 ?_
    rw [rounds_succ]
    go_wp2
    go_roundw
    case rel => exact ⟨k + 1, by omega, by go_num, hoth.drewN _, hstep⟩
    case measure => simp [intOf]; omega
   ·have hmem := List.getElem_mem hlt
    have hvb : vs[k].ownBlock = some g := by rw [hv]; rfl
    rw [hv] at hcell
    have HV := Lib.hid hv
    have HB := Lib.hid hblk
    have HCS := Lib.hid hcs
    clear hv hblk hcs
    go_wp2_with fail
    go_quiet (fail)
    go_wp2_with fail
    obtain ⟨wo, hwo⟩ : ∃ wo : World, wo = wr.drewN nq := ⟨_, rfl⟩
    rw [← hwo]
    have hoth' : Others vs w wo := by rw [hwo]; exact hoth.drewN _
    have hB' : Blk wo g 5 cur := by rw [hwo]; exact HB.out
    have hR' : Hid (∀ j (hj : j < vs.length), (j < k → RowFull wo vs[j] (byteOf j)) ∧ (k ≤ j → RowOk wo base vs[j])) := by rw [hwo]; exact hrows
    have hc' : wo.cell? (ad.add k) = some (.slice (some ⟨g, 0, none⟩) n cap) := by rw [hwo]; exact hcell
    clear hoth HB hrows hcell hwo
    go_loopw [5] (fun i wq => ∃ q : Nat, q ≤ cap ∧ i = .int .i64 q ∧ Others vs w wq ∧ Blk wq g 5 (List.replicate q (Value.int .u8 (byteOf k)) ++ cur.toList.drop q).toArray ∧ wo.grownBy wq (some g)) (fun i _ => cap - (intOf i).toNat)
    case atStart => exact ⟨0, by omega, rfl, hoth', by simpa using hB', World.grownBy.refl _ _⟩
    case round =>
     obtain ⟨q, hq, rfl, ho, hbq, hgq⟩ := hrel
     have hlen : cap ≤ cur.toList.length := by rw [Array.length_toList]; exact HCS.out
     by_cases hqc : q < cap
     ·have hst := fill_step cap q (Value.int .u8 (byteOf k)) cur.toList hlen hqc
      have hcq : ∃ u, wr.cell? ⟨g, q, none⟩ = some u := by
       rw [hbq.cell]
       exact ⟨_, Array.getElem?_eq_getElem (by have := HCS.out; simp; omega)⟩
      obtain ⟨u, hcq⟩ := hcq
      have hfq := hbq.frozen q
      have hbq2 : Blk (wr.setCell ⟨g, q, none⟩ (.int .u8 (byteOf k))) g 5 (List.replicate (q + 1) (Value.int .u8 (byteOf k)) ++ cur.toList.drop (q + 1)).toArray := by rw [← hst]; exact hbq.set_ q _
      have ho2 := ho.set hmem hvb q (.int .u8 (byteOf k))
      have hgq2 := grown_then hgq (grown_setCell wr g q (.int .u8 (byteOf k))) (.inl rfl)
      have hbk2 : IntKind.u8.wrap ((k : Int) + 1) = byteOf k := by unfold byteOf; simp [IntKind.wrap, IntKind.bits, IntKind.signed]
      have hbk3 : ((k : Int) + 1) % 256 = byteOf k := rfl
      have HST := Lib.hid hst
      clear hst hbq ho hgq
      go_wp2
      go_roundw
      case rel => exact ⟨q + 1, by omega, by go_num, ho2, hbq2, hgq2⟩
      case measure => simp [intOf]; omega
     ·obtain rfl : q = cap := by omega
      have hfull : Hid (∀ j (hj : j < vs.length), (j < k + 1 → RowFull wr vs[j] (byteOf j)) ∧ (k + 1 ≤ j → RowOk wr base vs[j])) := Lib.hid fun j hj => by
       have hfar : j ≠ k → ∀ x, vs[j].ownBlock = some x → wr.heap[x]? = wo.heap[x]? := fun hjk x hx => by
        by_cases hxs : x < wo.heap.size
        ·exact hgq.block x hxs (by
          intro e
          have : x = g := by injection e
          subst this
          exact HAP.out j k hj hlt hjk x hx hvb)
        ·have h1 : wo.heap[x]? = none := Array.getElem?_eq_none (by omega)
         have h2 : wr.heap[x]? = none := Array.getElem?_eq_none (by have := ho.size; have := hoth'.size; omega)
         rw [h1, h2]
       refine ⟨fun h => ?_, fun h => ((hR'.out j hj).2 (by omega)).keep (hfar (by omega))⟩
       by_cases hjk : j = k
       ·subst hjk
        exact .inr ⟨g, n, q, _, HV.out, hbq, hnc, hcap⟩
       ·exact ((hR'.out j hj).1 (by omega)).keep (hfar hjk)
      clear hbq hgq hR' hoth' hB' hc'
      go_wp2
      go_roundw
      case rel => exact ⟨k + 1, by omega, by go_num, ho, hfull⟩
      case measure => simp [intOf]; omega
  ·obtain rfl : k = vs.length := by omega
   have hfull : ∀ j (hj : j < vs.length), RowFull wr vs[j] (byteOf j) := fun j hj => (hrows.out j hj).1 hj
   have HF := Lib.hid hfull
   clear hrows hfull
   go_wp2_with fail
   obtain ⟨wo, hwo⟩ : ∃ wo : World, wo = wr := ⟨_, rfl⟩
   rw [← hwo] at HF hoth ⊢
   clear hwo
   go_loopw [6, 7, 8] (fun i y1 y2 wr => ∃ k : Nat, k ≤ vs.length ∧ i = .int .i64 k ∧ ∃ q, wr = wo.drewN q) (fun i _ _ _ => vs.length - (intOf i).toNat)
   case atStart => exact ⟨0, by omega, rfl, 0, rfl⟩
   case round =>
    obtain ⟨k, hk, rfl, q0, rfl⟩ := hrel
    by_cases hlt : k < vs.length
    ·obtain ⟨ad, rfl, hbk, hcell⟩ := (hoth.rd hr HNE.out).at_ hlt
     have hkI : (k : Int) < vs.length := by omega
     rcases HF.out k hlt with hv | ⟨g, n, cap, rest, hv, hblk, hnc, hcap⟩
     ·rw [hv] at hcell
      have HV := Lib.hid hv
      clear hv
      go_wp2_with fail
      go_quiet (fail)
      go_wp2_with fail
      refine wp_loop_rounds 1 ?_
      rw [rounds_succ]
      go_wp2
      go_roundw
      case rel => exact ⟨k + 1, by omega, by go_num, _, rfl⟩
      case measure => simp [intOf]; omega
     ·rw [hv] at hcell
      have HV := Lib.hid hv
      have HB := Lib.hid hblk
      clear hv hblk
      go_wp2_with fail
      go_quiet (fail)
      go_wp2_with fail
      go_loopw [8] (fun i wq => ∃ q : Nat, q ≤ cap ∧ i = .int .i64 q ∧ ∃ Q, wq = wo.drewN Q) (fun i _ => cap - (intOf i).toNat)
      case atStart => exact ⟨0, by omega, rfl, q0 + nq, by rw [World.drewN_drewN]⟩
      case round =>
       obtain ⟨q, hq, rfl, Q, rfl⟩ := hrel
       by_cases hqc : q < cap
       ·have hcq : wo.cell? ⟨g, q, none⟩ = some (.int .u8 (byteOf k)) := by
         rw [HB.out.cell]
         simp [List.getElem?_append, hqc]
        have hbk2 : IntKind.u8.wrap ((k : Int) + 1) = byteOf k := by unfold byteOf; simp [IntKind.wrap, IntKind.bits, IntKind.signed]
        have hbk3 : ((k : Int) + 1) % 256 = byteOf k := rfl
        go_wp2
        go_roundw
        case rel => exact ⟨q + 1, by omega, by go_num, Q, rfl⟩
        case measure => simp [intOf]; omega
       ·go_wp2
        go_roundw
        case rel => exact ⟨k + 1, by omega, by go_num, _, rfl⟩
        case measure => simp [intOf]; omega
    ·go_wp2
     go_ret
     refine ⟨rfl, hoth.drewN _, fun v hv => ?_⟩
     obtain ⟨j, hj, rfl⟩ := List.getElem_of_mem hv
     exact RowOk.of_full (w := wo) (HF.out j hj) (HOK.out _ hv).base
theorem LentAt.rd {w : World} {g : Nat} {l : List UInt8} (h : LentAt w g l) : Rd w (g + 1) (some ⟨g, 0, none⟩) (cells l) := by
 intro _
 refine ⟨_, rfl, by simp, fun j u hu => ?_⟩
 rw [show (⟨g, 0, none⟩ : Addr).add j = ⟨g, j, none⟩ by simp [Addr.add_lit], Blk.cell h]
 have hj : j < (cells l).length := (List.getElem?_eq_some_iff.1 hu).1
 simp only [List.getElem?_toArray]
 rw [List.getElem?_append_left hj]
 exact hu
theorem LentAt.below {w w' : World} {g B : Nat} {l : List UInt8} (h : LentAt w g l) (hb : Below B w w') (hg : g < B) : LentAt w' g l := Blk.below h hb hg
theorem rd_two (w : World) (t : TypeId) (a b : Value) : Rd (w.alloc (.cells #[a, b] t)) (w.heap.size + 1) (some ⟨w.heap.size, 0, none⟩) [a, b] := by
 intro _
 refine ⟨_, rfl, by simp, fun j u hu => ?_⟩
 rw [show (⟨w.heap.size, 0, none⟩ : Addr).add j = ⟨w.heap.size, j, none⟩ by simp [Addr.add_lit], World.cell?_alloc_at _ _ _ _ rfl]
 simpa using hu
theorem RowOk.lt {w : World} {base : Nat} {v : Value} (h : RowOk w base v) : ∀ g, v.ownBlock = some g → g < w.heap.size := by
 rintro k hk
 rcases h with rfl | ⟨g, n, cap, cur, rfl, hb, hblk, _⟩
 ·simp [Value.ownBlock] at hk
 ·simp [Value.ownBlock] at hk; rw [← hk]; exact hblk.lt
theorem RowOk.alloc {w : World} {base : Nat} {v : Value} (h : RowOk w base v) (o : Obj) : RowOk (w.alloc o) base v :=
 h.keep fun g hg => Below.heap_alloc w o g (h.lt g hg)
end Go.Proofs.YteehkcpokgeipaaGreatDoor
set_option linter.unusedVariables false
namespace Go.Proofs.YteehkcpokgeipaaGreatDoor
open Go.RowKit Oct
def IBlk (w : World) (A : Option Addr) (cap : Nat) (cur : List Value) : Prop := cur.length = cap ∧ (0 < cap → ∃ g, A = some ⟨g, 0, none⟩ ∧ Blk w g 3 cur.toArray)
theorem IBlk.of_own {w : World} {base : Nat} {v : Value} {z : List Int} (h : Is w base v z) : ∃ A cap cur, v = .slice A z.length cap ∧ cap ≤ 9223372036854775807 ∧ IBlk w A cap cur ∧ ∀ g, A = some ⟨g, 0, none⟩ → base ≤ g := by
 rcases Own.whole h with ⟨rfl, hz⟩ | ⟨g, cap, cur, rfl, hb, hg, hblk, hn, hc, hs, _⟩
 ·have : z = [] := by simpa using hz
  subst this
  exact ⟨none, 0, [], rfl, by omega, ⟨rfl, fun h => absurd h (by omega)⟩, fun g h => by cases h⟩
 ·rw [List.length_map]
  refine ⟨_, cap, cur.toList, rfl, by unfold maxLen at hc; omega, ⟨by simpa using hs, fun _ => ⟨g, rfl, by unfold Blk; simpa using hblk⟩⟩, fun g' h => ?_⟩
  injection h with h
  injection h with h
  omega
theorem IBlk.set {w : World} {g cap q : Nat} {x : Value} {cur : List Value} (hb : Blk w g 3 (List.replicate q x ++ cur.drop q).toArray) (hcs : cur.length = cap) (hq : q < cap) :
  IBlk (w.setCell ⟨g, q, none⟩ x) (some ⟨g, 0, none⟩) cap (List.replicate (q + 1) x ++ cur.drop (q + 1)) := by
 refine ⟨by simp; omega, fun _ => ⟨g, rfl, ?_⟩⟩
 rw [← fill_step cap q x cur (Nat.le_of_eq hcs.symm) hq]
 exact hb.set_ q x
theorem IBlk.far {w : World} {A : Option Addr} {cap : Nat} {cur : List Value} (h : IBlk w A cap cur) {g : Nat} (hne : A ≠ some ⟨g, 0, none⟩) (q : Nat) (u : Value) : IBlk (w.setCell ⟨g, q, none⟩ u) A cap cur := by
 refine ⟨h.1, fun h0 => ?_⟩
 obtain ⟨g', rfl, hb⟩ := h.2 h0
 exact ⟨g', rfl, hb.far (by rintro rfl; exact hne rfl) u⟩
theorem IBlk.keep {w w' : World} {A : Option Addr} {cap : Nat} {cur : List Value} (h : IBlk w A cap cur) (hk : ∀ g, A = some ⟨g, 0, none⟩ → w'.heap[g]? = w.heap[g]?) : IBlk w' A cap cur := by
 refine ⟨h.1, fun h0 => ?_⟩
 obtain ⟨g', rfl, hb⟩ := h.2 h0
 exact ⟨g', rfl, (hk g' rfl).trans hb⟩
end Go.Proofs.YteehkcpokgeipaaGreatDoor
