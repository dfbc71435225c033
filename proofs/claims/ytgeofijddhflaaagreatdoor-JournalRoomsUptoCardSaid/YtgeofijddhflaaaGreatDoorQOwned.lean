/- The statements' own helper Owned: rows of bytes, each in a block of its own, are written over without another one changing. Condition: no two rows lie in one block. -/
import Derived.Test.YtgeofijddhflaaaGreatDoorQPut
import Derived.Lib.AppendStr
set_option linter.unusedVariables false
namespace Go.Proofs.YtgeofijddhflaaaGreatDoor
open Go.RowKit Oct
theorem maxI_eq : (9223372036854775807 : Int) = (maxI : Int) := rfl
theorem maxU_eq : (18446744073709551615 : Int) = (maxU : Int) := rfl
theorem maxI_lt : maxI < 2 ^ 64 := by decide
theorem maxU_lt : maxU < 2 ^ 64 := by decide
theorem count_at (g a m : Nat) (M : Int) (hM : M = (m : Int)) (A : Option Addr) (l : List UInt8) (c : Nat) (w : World) (h : Tk w g a 0 (.slice A l.length c)) (hm : m < 2 ^ 64) (ha : a ≤ l.length) (hl : l.length ≤ 4611686018427387904)
  (hr : Rd w g A (cells l)) :
  Calls Tryz.prog 186 #[.pointer (some ⟨g, 0, none⟩), .int .u64 M] w fun e' w' => e' = .returned (.int .u64 (cnt m (l.drop a)).1) ∧
   Tk w' g (a + (cnt m (l.drop a)).2.1 : Nat) (cnt m (l.drop a)).2.2 (.slice A l.length c) ∧ w.grownBy w' (some g) := by
 subst hM
 exact count_any g a m A l c w h hm ha hl hr
theorem tk_new (w : World) (s : Value) : Tk (w.alloc (.cells #[.int .i64 0, .int .i64 0, s] 220)) w.heap.size 0 0 s := Blk.new _ _ _
theorem below_box {w w1 : World} {o : Obj} (h : (w.alloc o).grownBy w1 (some w.heap.size)) : Below w.heap.size w w1 :=
 ((Below.refl _ w).alloc (Nat.le_refl _) o).trans ⟨h.os, h.tape, h.output, h.size, fun k hk => h.block k (by simp; omega) (by simp; omega)⟩
theorem usedOf_cast (a : Nat) (e : Int) : usedOf (a : Int) e = ((if e = 0 then a else 0 : Nat) : Int) := by
 unfold usedOf
 split <;> rfl
set_option maxRecDepth 100000 in
theorem takeUint_any (A : Option Addr) (l : List UInt8) (c : Nat) (w : World) (hr : Rd w w.heap.size A (cells l)) (hl : l.length ≤ 4611686018427387904) :
  Calls Tryz.prog 150 #[.slice A l.length c] w fun e w' => e = .returned (.tuple #[.int .i64 (takeU maxI l).1, .int .i64 (takeU maxI l).2.1, .int .i64 (takeU maxI l).2.2]) ∧ Below w.heap.size w w' := by
 go_enter Tryz.func150, Tryz.ntmps150
 go_wp2_with fail
 refine (count_at w.heap.size 0 maxI _ maxI_eq A l c _ (tk_new _ _) maxI_lt (by omega) hl (hr.alloc (Nat.le_refl _) _)).mono ?_
 rintro e w1 ⟨rfl, htk, hg⟩
 have hb := below_box hg
 rw [List.drop_zero, Nat.zero_add] at htk
 rw [List.drop_zero]
 have hle : (cnt maxI l).1 ≤ 9223372036854775807 := cnt_le maxI l
 obtain ⟨h0, h1, h2, f0, f1⟩ := tk_cells htk
 clear hg
 go_wp2_with fail
 go_quiet ((go_at_call 187; exact Calls.quiet_of_same (used_any _ _ _ _ _ (htk.drewN _))))
 go_wp2
 go_ret3
 exact ⟨ret3 rfl (congrArg (Value.int .i64) (usedOf_cast _ _)) rfl, below_drewN hb _⟩
theorem number_fold (u : Nat) (hu : u ≤ maxU) : bits .xor .i64 (wrap64 ((u : Int) / 2)) (wrap64 (-wrap64 (bits .and .u64 (u : Int) 1))) = unfold1 u := by
 have hu' : u ≤ 18446744073709551615 := hu
 have h1 : bits .and .u64 (u : Int) 1 = ((u % 2 : Nat) : Int) := by
  have := u64_and_nat u 1 (by omega) (by omega)
  rw [show ((1 : Nat) : Int) = 1 from rfl] at this
  rw [this, Nat.and_one_is_mod]
 have h2 : wrap64 ((u : Int) / 2) = ((u / 2 : Nat) : Int) := by
  rw [IntWalk.wrap64_in _ ⟨by omega, by omega⟩]
  omega
 rw [h1, h2]
 have hb : (BitVec.ofInt 64 ((u / 2 : Nat) : Int)).toNat = u / 2 := by
  rw [BitVec.ofInt_natCast, BitVec.toNat_ofNat]
  exact Nat.mod_eq_of_lt (by omega)
 rcases Nat.mod_two_eq_zero_or_one u with h | h
 ·rw [h]
  have h3 : wrap64 (-wrap64 ((0 : Nat) : Int)) = 0 := by unfold wrap64; decide
  rw [h3]
  show IntKind.i64.wrap ((BitVec.ofInt 64 ((u / 2 : Nat) : Int) ^^^ BitVec.ofInt 64 0).toNat : Int) = _
  have h4 : BitVec.ofInt 64 ((u / 2 : Nat) : Int) ^^^ BitVec.ofInt 64 0 = BitVec.ofInt 64 ((u / 2 : Nat) : Int) := by
   rw [show BitVec.ofInt 64 0 = 0#64 from rfl, BitVec.xor_zero]
  rw [h4, hb, IntKind.wrap_i64, unfold1, if_pos h]
  omega
 ·rw [h]
  have h3 : wrap64 (-wrap64 ((1 : Nat) : Int)) = -1 := by unfold wrap64; decide
  rw [h3]
  show IntKind.i64.wrap ((BitVec.ofInt 64 ((u / 2 : Nat) : Int) ^^^ BitVec.ofInt 64 (-1)).toNat : Int) = _
  have h4 : BitVec.ofInt 64 ((u / 2 : Nat) : Int) ^^^ BitVec.ofInt 64 (-1) = ~~~ (BitVec.ofInt 64 ((u / 2 : Nat) : Int)) := by
   rw [show BitVec.ofInt 64 (-1) = BitVec.allOnes 64 from rfl, BitVec.xor_allOnes]
  rw [h4, BitVec.toNat_not, hb, IntKind.wrap_i64, unfold1, if_neg (by omega)]
  omega
set_option maxRecDepth 100000 in
theorem number_any (g a : Nat) (A : Option Addr) (l : List UInt8) (c : Nat) (w : World) (h : Tk w g a 0 (.slice A l.length c)) (ha : a ≤ l.length) (hl : l.length ≤ 4611686018427387904) (hr : Rd w g A (cells l)) :
  Calls Tryz.prog 189 #[.pointer (some ⟨g, 0, none⟩)] w fun e' w' => e' = .returned (.int .i64 (unfold1 (cnt maxU (l.drop a)).1)) ∧
   Tk w' g (a + (cnt maxU (l.drop a)).2.1 : Nat) (cnt maxU (l.drop a)).2.2 (.slice A l.length c) ∧ w.grownBy w' (some g) := by
 go_enter Tryz.func189, Tryz.ntmps189
 go_wp2_with fail
 refine (count_at g a maxU _ maxU_eq A l c _ h maxU_lt ha hl hr).mono ?_
 rintro e w1 ⟨rfl, htk, hg⟩
 have hle := Lib.hid (cnt_le maxU (l.drop a))
 go_wp2
 go_ret
 exact ⟨ret_int (number_fold _ hle.out), htk, hg⟩
set_option maxRecDepth 100000 in
theorem takeInt_any (A : Option Addr) (l : List UInt8) (c : Nat) (w : World) (hr : Rd w w.heap.size A (cells l)) (hl : l.length ≤ 4611686018427387904) :
  Calls Tryz.prog 154 #[.slice A l.length c] w fun e w' => e = .returned (.tuple #[.int .i64 (unfold1 (takeU maxU l).1), .int .i64 (takeU maxU l).2.1, .int .i64 (takeU maxU l).2.2]) ∧ Below w.heap.size w w' := by
 go_enter Tryz.func154, Tryz.ntmps154
 go_wp2_with fail
 refine (number_any w.heap.size 0 A l c _ (tk_new _ _) (by omega) hl (hr.alloc (Nat.le_refl _) _)).mono ?_
 rintro e w1 ⟨rfl, htk, hg⟩
 have hb := below_box hg
 rw [List.drop_zero, Nat.zero_add] at htk
 rw [List.drop_zero]
 obtain ⟨h0, h1, h2, f0, f1⟩ := tk_cells htk
 clear hg
 go_wp2_with fail
 go_quiet ((go_at_call 187; exact Calls.quiet_of_same (used_any _ _ _ _ _ (htk.drewN _))))
 go_wp2
 go_ret3
 exact ⟨ret3 rfl (congrArg (Value.int .i64) (usedOf_cast _ _)) rfl, below_drewN hb _⟩
def lenOf (m : Nat) (l : List UInt8) : Nat × Int := if (cnt maxI l).2.2 = 0 then (if m < (cnt maxI l).1 then (0, 2) else ((cnt maxI l).1, 0)) else (0, (cnt maxI l).2.2)
theorem lenOf_err (m : Nat) (l : List UInt8) (h : (cnt maxI l).2.2 ≠ 0) : lenOf m l = (0, (cnt maxI l).2.2) := if_neg h
theorem lenOf_long (m : Nat) (l : List UInt8) (h : (cnt maxI l).2.2 = 0) (h2 : m < (cnt maxI l).1) : lenOf m l = (0, 2) := by unfold lenOf; rw [if_pos h, if_pos h2]
theorem lenOf_ok (m : Nat) (l : List UInt8) (h : (cnt maxI l).2.2 = 0) (h2 : ¬ m < (cnt maxI l).1) : lenOf m l = ((cnt maxI l).1, 0) := by unfold lenOf; rw [if_pos h, if_neg h2]
set_option maxRecDepth 100000 in
theorem length_any (g m : Nat) (A : Option Addr) (l : List UInt8) (c : Nat) (w : World) (h : Tk w g 0 0 (.slice A l.length c)) (hl : l.length ≤ 4611686018427387904) (hr : Rd w g A (cells l)) (hm : m ≤ 65536) :
  Calls Tryz.prog 204 #[.pointer (some ⟨g, 0, none⟩), .int .i64 m] w fun e' w' => e' = .returned (.int .i64 (lenOf m l).1) ∧
   Tk w' g ((cnt maxI l).2.1 : Nat) (lenOf m l).2 (.slice A l.length c) ∧ w.grownBy w' (some g) := by
 have hle : (cnt maxI l).1 ≤ 9223372036854775807 := cnt_le maxI l
 by_cases he : (cnt maxI l).2.2 = 0
 ·by_cases hlt : m < (cnt maxI l).1
  ·rw [lenOf_long m l he hlt]
   go_enter Tryz.func204, Tryz.ntmps204
   go_wp2_with fail
   refine (count_at g 0 maxI _ maxI_eq A l c _ h maxI_lt (by omega) hl hr).mono ?_
   rintro e w1 ⟨rfl, htk, hg⟩
   rw [List.drop_zero, he, Nat.zero_add] at htk
   rw [List.drop_zero]
   have HE := Lib.hid he
   clear he
   go_wp2_with fail
   refine (wrong_yes g _ 2 _ _ htk (by omega)).mono ?_
   rintro e w2 ⟨rfl, htk2, hg2⟩
   go_wp2
   go_ret
   exact ⟨rfl, htk2, grown_then hg hg2 (.inl rfl)⟩
  ·rw [lenOf_ok m l he hlt]
   go_enter Tryz.func204, Tryz.ntmps204
   go_wp2_with fail
   refine (count_at g 0 maxI _ maxI_eq A l c _ h maxI_lt (by omega) hl hr).mono ?_
   rintro e w1 ⟨rfl, htk, hg⟩
   rw [List.drop_zero, he, Nat.zero_add] at htk
   rw [List.drop_zero]
   have HE := Lib.hid he
   clear he
   have hnd : decide (m < (cnt maxI l).1) = false := by simpa using hlt
   go_wp2_with fail
   refine (wrong_no g _ 2 _ _ htk).mono ?_
   rintro e w2 ⟨rfl, rfl⟩
   go_wp2
   go_ret
   exact ⟨rfl, htk, hg⟩
 ·rw [lenOf_err m l he]
  go_enter Tryz.func204, Tryz.ntmps204
  go_wp2_with fail
  refine (count_at g 0 maxI _ maxI_eq A l c _ h maxI_lt (by omega) hl hr).mono ?_
  rintro e w1 ⟨rfl, htk, hg⟩
  rw [List.drop_zero, Nat.zero_add] at htk
  rw [List.drop_zero]
  have HE := Lib.hid he
  clear he
  go_wp2_with fail
  refine (wrong_err g _ _ 2 _ _ _ htk HE.out).mono ?_
  rintro e w2 ⟨rfl, rfl⟩
  go_wp2
  go_ret
  exact ⟨rfl, htk, hg⟩
end Go.Proofs.YtgeofijddhflaaaGreatDoor
set_option linter.unusedVariables false
namespace Go.Proofs.YtgeofijddhflaaaGreatDoor
open Go.RowKit Oct
def takeT (l : List UInt8) : List UInt8 × Nat × Int :=
 if (lenOf 65535 l).2 = 0 then
  (if l.length - (cnt maxI l).2.1 < (lenOf 65535 l).1 then ([], 0, 3) else ((l.drop (cnt maxI l).2.1).take (lenOf 65535 l).1, (cnt maxI l).2.1 + (lenOf 65535 l).1, 0))
 else ([], 0, (lenOf 65535 l).2)
theorem takeText_err (A : Option Addr) (l : List UInt8) (c : Nat) (w : World) (hr : Rd w w.heap.size A (cells l)) (hl : l.length ≤ 4611686018427387904) (he : (lenOf 65535 l).2 ≠ 0) :
  Calls Tryz.prog 175 #[.slice A l.length c] w fun e w' => e = .returned (.tuple #[.string (str (takeT l).1), .int .i64 (takeT l).2.1, .int .i64 (takeT l).2.2]) ∧ Below w.heap.size w w' := by
 have hfin : takeT l = ([], 0, (lenOf 65535 l).2) := if_neg he
 rw [hfin]
 have HE := Lib.hid he
 clear he hfin
 go_enter Tryz.func175, Tryz.ntmps175
 go_wp2_with fail
 refine (length_any w.heap.size 65535 A l c _ (tk_new _ _) hl (hr.alloc (Nat.le_refl _) _) (by omega)).mono ?_
 rintro e w1 ⟨rfl, htk, hg⟩
 have hb := below_box hg
 clear hg
 obtain ⟨h0, h1, h2, f0, f1⟩ := tk_cells htk
 go_wp2_with fail
 refine (on_err _ _ _ _ _ _ _ htk HE.out).mono ?_
 rintro e w2 ⟨rfl, rfl⟩
 go_wp2_with fail
 go_quiet (fail)
 go_wp2
 go_ret3
 exact ⟨rfl, below_drewN hb _⟩
theorem takeText_end (A : Option Addr) (l : List UInt8) (c : Nat) (w : World) (hr : Rd w w.heap.size A (cells l)) (hl : l.length ≤ 4611686018427387904) (he : (lenOf 65535 l).2 = 0)
  (hlt : l.length - (cnt maxI l).2.1 < (lenOf 65535 l).1) :
  Calls Tryz.prog 175 #[.slice A l.length c] w fun e w' => e = .returned (.tuple #[.string (str (takeT l).1), .int .i64 (takeT l).2.1, .int .i64 (takeT l).2.2]) ∧ Below w.heap.size w w' := by
 have hfin : takeT l = ([], 0, 3) := by unfold takeT; rw [if_pos he, if_pos hlt]
 rw [hfin]
 have HE := Lib.hid he
 have hu := cnt_used maxI l
 clear he hfin
 go_enter Tryz.func175, Tryz.ntmps175
 go_wp2_with fail
 refine (length_any w.heap.size 65535 A l c _ (tk_new _ _) hl (hr.alloc (Nat.le_refl _) _) (by omega)).mono ?_
 rintro e w1 ⟨rfl, htk, hg⟩
 rw [HE.out] at htk
 have hb := below_box hg
 clear hg
 go_wp2_with fail
 refine (on_end _ _ _ _ _ _ htk (by omega) (by omega) (by omega)).mono ?_
 rintro e w2 ⟨rfl, htk2, hg2⟩
 have hb2 : Below w.heap.size w w2 := hb.grown hg2 hb.size (by simp)
 obtain ⟨h0, h1, h2, f0, f1⟩ := tk_cells htk2
 clear hg2 hb htk
 go_wp2_with fail
 go_quiet (fail)
 go_wp2
 go_ret3
 exact ⟨rfl, below_drewN hb2 _⟩
set_option maxHeartbeats 400000 in
theorem takeText_ok (A : Option Addr) (l : List UInt8) (c : Nat) (w : World) (hr : Rd w w.heap.size A (cells l)) (hlc : l.length ≤ c) (hl : l.length ≤ 4611686018427387904 ∧ c ≤ 9223372036854775807) (he : (lenOf 65535 l).2 = 0)
  (hlt : ¬ l.length - (cnt maxI l).2.1 < (lenOf 65535 l).1) :
  Calls Tryz.prog 175 #[.slice A l.length c] w fun e w' => e = .returned (.tuple #[.string (str (takeT l).1), .int .i64 (takeT l).2.1, .int .i64 (takeT l).2.2]) ∧ Below w.heap.size w w' := by
 have hfin : takeT l = ((l.drop (cnt maxI l).2.1).take (lenOf 65535 l).1, (cnt maxI l).2.1 + (lenOf 65535 l).1, 0) := by unfold takeT; rw [if_pos he, if_neg hlt]
 rw [hfin]
 have HE := Lib.hid he
 have hu := cnt_used maxI l
 clear he hfin
 go_enter Tryz.func175, Tryz.ntmps175
 go_wp2_with fail
 refine (length_any w.heap.size 65535 A l c _ (tk_new _ _) (by omega) (hr.alloc (Nat.le_refl _) _) (by omega)).mono ?_
 rintro e w1 ⟨rfl, htk, hg⟩
 rw [HE.out] at htk
 have hb := below_box hg
 clear hg
 go_wp2_with fail
 refine (on_ok _ _ _ _ _ _ htk (by omega) (by omega) (by omega) (by omega) (by omega) (by omega)).mono ?_
 rintro e w2 ⟨rfl, htk2, hg2⟩
 have hb2 : Below w.heap.size w w2 := hb.grown hg2 hb.size (by simp)
 obtain ⟨h0, h1, h2, f0, f1⟩ := tk_cells htk2
 have hr2 := hr.below hb2
 clear hg2 hb htk
 have hcut := fun W : World => run_cut (P := Tryz.prog) Tryz.underlying34 info_u8 A l.length c (cnt maxI l).2.1 ((cnt maxI l).2.1 + (lenOf 65535 l).1) (by omega) (by omega) (((cnt maxI l).2.1 : Nat) : Int) (((cnt maxI l).2.1 : Int) + ((lenOf 65535 l).1 : Int)) rfl (by simp) W
 rw [Nat.add_sub_cancel_left] at hcut
 have hrd : Rd w2 w.heap.size (cutA A (cnt maxI l).2.1 c) (cells ((l.drop (cnt maxI l).2.1).take (lenOf 65535 l).1)) := by
  have := (Rd.cutA hr2 (k := (cnt maxI l).2.1) (cap := c) (by rw [cells_length]; omega) (by rw [cells_length]; omega)).take (lenOf 65535 l).1
  simpa [cells, List.map_take, List.map_drop] using this
 have hstr : ∀ q, (convert 34 9 (.slice (cutA A (cnt maxI l).2.1 c) (lenOf 65535 l).1 (c - (cnt maxI l).2.1))).run Tryz.prog (w2.drewN q) = .ok (.string (str ((l.drop (cnt maxI l).2.1).take (lenOf 65535 l).1))) (w2.drewN q) := fun q => by
  have := str_of (w := w2.drewN q) (c - (cnt maxI l).2.1) (hrd.drewN q)
  rw [show ((l.drop (cnt maxI l).2.1).take (lenOf 65535 l).1).length = (lenOf 65535 l).1 by simp; omega] at this
  exact this
 have hw1 : IntKind.i64.wrap (((cnt maxI l).2.1 : Int) + ((lenOf 65535 l).1 : Int) - ((lenOf 65535 l).1 : Int)) = ((cnt maxI l).2.1 : Int) := by rw [IntWalk.i64_in _ (by omega)]; omega
 have hw2 : IntKind.i64.wrap (((cnt maxI l).2.1 : Nat) : Int) = ((cnt maxI l).2.1 : Int) := IntWalk.i64_in _ (by omega)
 clear hr2 hr hrd
 go_wp2_with fail
 go_quiet (fail)
 go_wp2
 go_ret3
 exact ⟨rfl, below_drewN hb2 _⟩
theorem takeText_any (A : Option Addr) (l : List UInt8) (c : Nat) (w : World) (hr : Rd w w.heap.size A (cells l)) (hlc : l.length ≤ c) (hl : l.length ≤ 4611686018427387904 ∧ c ≤ 9223372036854775807) :
  Calls Tryz.prog 175 #[.slice A l.length c] w fun e w' => e = .returned (.tuple #[.string (str (takeT l).1), .int .i64 (takeT l).2.1, .int .i64 (takeT l).2.2]) ∧ Below w.heap.size w w' := by
 by_cases he : (lenOf 65535 l).2 = 0
 ·by_cases hlt : l.length - (cnt maxI l).2.1 < (lenOf 65535 l).1
  ·exact takeText_end A l c w hr (by omega) he hlt
  ·exact takeText_ok A l c w hr hlc hl he hlt
 ·exact takeText_err A l c w hr (by omega) he
end Go.Proofs.YtgeofijddhflaaaGreatDoor
set_option linter.unusedVariables false
namespace Go.Proofs.YtgeofijddhflaaaGreatDoor
open Go.RowKit Oct
theorem info_int : (Tryz.prog.info? 3).map (fun i => (i.zero, i.size, i.bytes)) = some (some (.int .i64 0), 1, 8) := by kernel_rfl
abbrev Is (w : World) (base : Nat) (v : Value) (z : List Int) : Prop := Own w base 3 v (z.map (Value.int .i64))
end Go.Proofs.YtgeofijddhflaaaGreatDoor
set_option linter.unusedVariables false
namespace Go.Proofs.YtgeofijddhflaaaGreatDoor
open Go.RowKit Oct
def LentAt (w : World) (g : Nat) (l : List UInt8) : Prop := Blk w g 5 (cells l ++ [Value.int .u8 77]).toArray
theorem bytes_one (l : List UInt8) : ∀ u ∈ cells l, u.oneCell' = true := by
 intro u hu
 obtain ⟨_, _, rfl⟩ := List.mem_map.1 hu
 rfl
end Go.Proofs.YtgeofijddhflaaaGreatDoor
set_option linter.unusedVariables false
namespace Go.Proofs.YtgeofijddhflaaaGreatDoor
open Go.RowKit Oct
theorem xor_ones (x : Nat) (h : x < 18446744073709551616) : x ^^^ 18446744073709551615 = 18446744073709551615 - x := by
 have h1 : (BitVec.ofNat 64 x ^^^ BitVec.allOnes 64).toNat = x ^^^ 18446744073709551615 := by
  rw [BitVec.toNat_xor, BitVec.toNat_ofNat, BitVec.toNat_allOnes, Nat.mod_eq_of_lt (by omega)]
 rw [← h1, BitVec.xor_allOnes, BitVec.toNat_not, BitVec.toNat_ofNat, Nat.mod_eq_of_lt (by omega)]
theorem folded_eq (n : Int) (h : -9223372036854775808 ≤ n ∧ n ≤ 9223372036854775807) :
  bits .xor .u64 (IntKind.u64.wrap (IntKind.u64.wrap n * 2)) (IntKind.u64.wrap (n / 9223372036854775808)) = ((fold1 n : Nat) : Int) := by
 have hw : ∀ x : Int, IntKind.u64.wrap x = x % 18446744073709551616 := fun x => by simp [IntKind.wrap, IntKind.bits, IntKind.signed]
 by_cases hn : 0 ≤ n
 ·obtain ⟨k, rfl⟩ := Int.eq_ofNat_of_zero_le hn
  rw [hw, hw, hw, show ((k : Int) % 18446744073709551616 * 2) % 18446744073709551616 = ((2 * k : Nat) : Int) by omega, show ((k : Int) / 9223372036854775808) % 18446744073709551616 = ((0 : Nat) : Int) by omega,
   u64_xor_nat _ _ (by omega) (by omega), Nat.xor_zero, fold1, if_pos hn]
  simp
 ·obtain ⟨k, hk⟩ : ∃ k : Nat, n = -(k : Int) - 1 := ⟨(-(n + 1)).toNat, by omega⟩
  subst hk
  rw [hw, hw, hw, show ((-(k : Int) - 1) % 18446744073709551616 * 2) % 18446744073709551616 = ((18446744073709551614 - 2 * k : Nat) : Int) by omega,
   show ((-(k : Int) - 1) / 9223372036854775808) % 18446744073709551616 = ((18446744073709551615 : Nat) : Int) by omega,
   u64_xor_nat _ _ (by omega) (by omega), fold1, if_neg hn]
  have h2 : (18446744073709551614 - 2 * k) ^^^ 18446744073709551615 = 2 * k + 1 := by
   rw [xor_ones _ (by omega)]
   omega
  rw [h2]
  congr 1
  omega
theorem fold1_lt (n : Int) (h : -9223372036854775808 ≤ n ∧ n ≤ 9223372036854775807) : fold1 n < 2 ^ 64 := by
 unfold fold1
 split <;> omega
set_option maxRecDepth 100000 in
theorem folded_any (n : Int) (h : -9223372036854775808 ≤ n ∧ n ≤ 9223372036854775807) (w : World) :
  Calls Tryz.prog 158 #[.int .i64 n] w fun e w' => e = .returned (.int .u64 (fold1 n : Nat)) ∧ w = w' := by
 have H := Lib.hid h
 clear h
 go_enter Tryz.func158, Tryz.ntmps158
 go_wp2
 go_ret
 exact ⟨ret_int (folded_eq n H.out), rfl⟩
theorem int_any (n : Int) (h : -9223372036854775808 ≤ n ∧ n ≤ 9223372036854775807) (w : World) :
  Calls Tryz.prog 119 #[.int .i64 n] w fun e w' => ∃ v, e = .returned v ∧ Bs w' w.heap.size v (enc (fold1 n)) ∧ Below w.heap.size w w' := by
 have hlt := Lib.hid (fold1_lt n h)
 have H := Lib.hid h
 clear h
 go_enter Tryz.func119, Tryz.ntmps119
 go_wp2_with fail
 refine (folded_any n H.out _).mono ?_
 rintro e w1 ⟨rfl, rfl⟩
 go_wp2_with fail
 refine (put_any (.slice none 0 0) [] (fold1 n) w.heap.size w hlt.out (by simp) (Nat.le_refl _) (Own.nil _ _ _)).mono ?_
 rintro e w1 ⟨v, rfl, hown, hg, _⟩
 have hb := below_of_grown hg
 clear hg
 go_wp2
 go_ret
 exact ⟨v, rfl, hown, hb⟩
set_option maxRecDepth 100000 in
theorem text_long (s : ByteArray) (w : World) (h : 65535 < s.size) (h2 : s.size ≤ 9223372036854775807) :
  Calls Tryz.prog 116 #[.string s] w fun e w' => e = .returned (.tuple #[.slice none 0 0, .int .i64 2]) ∧ w = w' := by
 go_enter Tryz.func116, Tryz.ntmps116
 go_wp2
 go_ret2
 exact ⟨rfl, rfl⟩
theorem strCells_eq (s : ByteArray) : Lib.strCells s = cells s.data.toList := rfl
set_option maxRecDepth 100000 in
theorem text_ok (s : ByteArray) (w : World) (h : s.size ≤ 65535) :
  Calls Tryz.prog 116 #[.string s] w fun e w' => ∃ v, e = .returned (.tuple #[v, .int .i64 0]) ∧ Bs w' w.heap.size v (enc s.size ++ s.data.toList) ∧ Below w.heap.size w w' := by
 obtain ⟨i0, hi, hz0, hz1, hz2⟩ := info_parts info_u8
 go_enter Tryz.func116, Tryz.ntmps116
 go_wp2_with fail
 refine (put_any (.slice none 0 0) [] s.size w.heap.size w (by omega) (by simp) (Nat.le_refl _) (Own.nil _ _ _)).mono ?_
 rintro e w1 ⟨v, rfl, hown, hg, _⟩
 have hb := below_of_grown hg
 clear hg
 have hlen := enc_len s.size (by omega)
 have hown' : w1.ownsRow w.heap.size 5 1 v (enc s.size).length (cells (enc s.size)) := by have := hown; unfold Bs Own at this; rw [cells_length] at this; exact this
 have hsz := hb.size
 go_wp2_with (at_builtin; refine Lib.wpList_append_own_string _ rfl (.tmp 10) (.tmp 11) 34 9 rfl w.heap.size 5 i0 Tryz.underlying34 Tryz.underlying9 hi hz0 hz1 hz2 v (enc s.size).length (cells (enc s.size)) rfl hown' s rfl (by unfold maxLen; omega) (by omega) (by omega) ?_)
 intro v' w2 hown2 hg2 _
 have hown3 : Bs w2 w.heap.size v' (enc s.size ++ s.data.toList) := by
  unfold Bs Own
  rw [cells_length, List.length_append, cells_append]
  rw [strCells_eq] at hown2
  exact hown2
 have hb2 : Below w.heap.size w w2 := hb.grown hg2 hsz (fun k hk => (hown.lt k hk).1)
 clear hown2 hg2 hown hown' hb
 go_wp2
 go_ret2
 exact ⟨v', rfl, hown3, hb2⟩
end Go.Proofs.YtgeofijddhflaaaGreatDoor
set_option linter.unusedVariables false
namespace Go.Proofs.YtgeofijddhflaaaGreatDoor
open Go.RowKit Oct
end Go.Proofs.YtgeofijddhflaaaGreatDoor
set_option linter.unusedVariables false
namespace Go.Proofs.YtgeofijddhflaaaGreatDoor
open Go.RowKit Oct
theorem bytes_oneCell (l : List UInt8) : ∀ u ∈ cells l, u.oneCell' = true := by
 intro u hu
 obtain ⟨_, _, rfl⟩ := List.mem_map.1 hu
 rfl
theorem takeU_le (m : Nat) (l : List UInt8) : (takeU m l).1 ≤ m := cnt_le m l
end Go.Proofs.YtgeofijddhflaaaGreatDoor
set_option linter.unusedVariables false
namespace Go.Proofs.YtgeofijddhflaaaGreatDoor
open Go.RowKit Oct
theorem takeU_used (m : Nat) (l : List UInt8) : (takeU m l).2.1 ≤ l.length := by
 unfold takeU
 have := cnt_used m l
 show (if (cnt m l).2.2 = 0 then (cnt m l).2.1 else 0) ≤ _
 split <;> omega
theorem takeU_at {m : Nat} {l : List UInt8} (h : (takeU m l).2.2 = 0) : (takeU m l).2.1 = (cnt m l).2.1 := if_pos h
end Go.Proofs.YtgeofijddhflaaaGreatDoor
set_option linter.unusedVariables false
namespace Go.Proofs.YtgeofijddhflaaaGreatDoor
open Go.RowKit Oct
def RowOk (w : World) (base : Nat) (v : Value) : Prop :=
 v = .slice none 0 0 ∨ ∃ g n cap cur, v = .slice (some ⟨g, 0, none⟩) n cap ∧ base ≤ g ∧ Blk w g 5 cur ∧ cap ≤ cur.size ∧ n ≤ cap ∧ cap ≤ 9223372036854775807
def RowFull (w : World) (v : Value) (x : Int) : Prop :=
 v = .slice none 0 0 ∨ ∃ g n cap rest, v = .slice (some ⟨g, 0, none⟩) n cap ∧ Blk w g 5 (List.replicate cap (Value.int .u8 x) ++ rest).toArray ∧ n ≤ cap ∧ cap ≤ 9223372036854775807
structure Others (vs : List Value) (w w' : World) : Prop where
 os : w'.os = w.os
 tape : w'.tape = w.tape
 output : w'.output = w.output
 size : w'.heap.size = w.heap.size
 block : ∀ k, (∀ v ∈ vs, v.ownBlock ≠ some k) → w'.heap[k]? = w.heap[k]?
def Apart (vs : List Value) : Prop := ∀ i j (hi : i < vs.length) (hj : j < vs.length), i ≠ j → ∀ g, vs[i].ownBlock = some g → vs[j].ownBlock ≠ some g
theorem Others.refl (vs : List Value) (w : World) : Others vs w w := ⟨rfl, rfl, rfl, rfl, fun _ _ => rfl⟩
theorem Others.drewN {vs : List Value} {w w' : World} (h : Others vs w w') (n : Nat) : Others vs w (w'.drewN n) := ⟨h.os, h.tape, h.output, h.size, h.block⟩
theorem Others.set {vs : List Value} {w w' : World} (h : Others vs w w') {v : Value} (hv : v ∈ vs) {g : Nat} (hg : v.ownBlock = some g) (i : Nat) (u : Value) : Others vs w (w'.setCell ⟨g, i, none⟩ u) :=
 ⟨h.os, h.tape, h.output, by simp [World.setCell, h.size], fun k hk => (Below.heap_setCell _ _ _ _ (by rintro rfl; exact hk v hv hg)).trans (h.block k hk)⟩
theorem Others.rd {vs : List Value} {w w' : World} (h : Others vs w w') {B : Nat} {A : Option Addr} {xs : List Value} (hr : Rd w B A xs) (hne : ∀ ad, A = some ad → ∀ v ∈ vs, v.ownBlock ≠ some ad.block) : Rd w' B A xs := fun hn => by
 obtain ⟨ad, rfl, hb, hc⟩ := hr hn
 exact ⟨ad, rfl, hb, fun j u hu => (World.cell?_of_block (w := w) (by rw [block_of_add]; exact h.block _ (hne ad rfl))).trans (hc j u hu)⟩
theorem Others.below {vs : List Value} {w w' : World} (h : Others vs w w') {base : Nat} (hb : ∀ v ∈ vs, ∀ k, v.ownBlock = some k → base ≤ k) : Below base w w' :=
 ⟨h.os, h.tape, h.output, by rw [h.size]; exact Nat.le_refl _, fun k hk => h.block k fun v hv hg => by have := hb v hv k hg; omega⟩
theorem RowOk.base {w : World} {base : Nat} {v : Value} (h : RowOk w base v) : ∀ k, v.ownBlock = some k → base ≤ k := by
 rintro k hk
 rcases h with rfl | ⟨g, n, cap, cur, rfl, hb, _⟩
 ·simp [Value.ownBlock] at hk
 ·simp [Value.ownBlock] at hk; omega
theorem RowOk.keep {w w' : World} {base : Nat} {v : Value} (h : RowOk w base v) (hk : ∀ g, v.ownBlock = some g → w'.heap[g]? = w.heap[g]?) : RowOk w' base v := by
 rcases h with rfl | ⟨g, n, cap, cur, rfl, hb, hblk, r⟩
 ·exact .inl rfl
 ·exact .inr ⟨g, n, cap, cur, rfl, hb, (hk g rfl).trans hblk, r⟩
theorem RowFull.keep {w w' : World} {v : Value} {x : Int} (h : RowFull w v x) (hk : ∀ g, v.ownBlock = some g → w'.heap[g]? = w.heap[g]?) : RowFull w' v x := by
 rcases h with rfl | ⟨g, n, cap, rest, rfl, hblk, r⟩
 ·exact .inl rfl
 ·exact .inr ⟨g, n, cap, rest, rfl, (hk g rfl).trans hblk, r⟩
theorem RowOk.of_own {w : World} {base : Nat} {v : Value} {l : List UInt8} (h : Bs w base v l) : RowOk w base v := by
 rcases Own.whole h with ⟨rfl, _⟩ | ⟨g, cap, cur, rfl, hb, hg, hblk, hn, hc, hs, _⟩
 ·exact .inl rfl
 ·exact .inr ⟨g, _, cap, cur, rfl, hb, hblk, Nat.le_of_eq hs.symm, hn, by unfold maxLen at hc; omega⟩
theorem fill_step (cap q : Nat) (x : Value) (cur : List Value) (hcs : cap ≤ cur.length) (hq : q < cap) :
  (List.replicate q x ++ cur.drop q).toArray.setIfInBounds q x = (List.replicate (q + 1) x ++ cur.drop (q + 1)).toArray := by
 have h : cur.drop q = cur[q] :: cur.drop (q + 1) := List.drop_eq_getElem_cons (by omega)
 rw [h, List.replicate_succ', List.append_assoc]
 simp only [List.setIfInBounds_toArray]
 rw [List.set_append, if_neg (by simp)]
 simp
 rw [h]
 rfl
theorem LentAt.rd {w : World} {g : Nat} {l : List UInt8} (h : LentAt w g l) : Rd w (g + 1) (some ⟨g, 0, none⟩) (cells l) := by
 intro _
 refine ⟨_, rfl, by simp, fun j u hu => ?_⟩
 rw [show (⟨g, 0, none⟩ : Addr).add j = ⟨g, j, none⟩ by simp [Addr.add_lit], Blk.cell h]
 have hj : j < (cells l).length := (List.getElem?_eq_some_iff.1 hu).1
 simp only [List.getElem?_toArray]
 rw [List.getElem?_append_left hj]
 exact hu
theorem LentAt.below {w w' : World} {g B : Nat} {l : List UInt8} (h : LentAt w g l) (hb : Below B w w') (hg : g < B) : LentAt w' g l := Blk.below h hb hg
theorem Rd.lower {w : World} {B B' : Nat} {A : Option Addr} {xs : List Value} (h : Rd w B A xs) (hB : ∀ ad, A = some ad → ad.block < B') : Rd w B' A xs := fun hn => by
 obtain ⟨ad, rfl, _, hc⟩ := h hn
 exact ⟨ad, rfl, hB ad rfl, hc⟩
theorem RowOk.lt {w : World} {base : Nat} {v : Value} (h : RowOk w base v) : ∀ g, v.ownBlock = some g → g < w.heap.size := by
 rintro k hk
 rcases h with rfl | ⟨g, n, cap, cur, rfl, hb, hblk, _⟩
 ·simp [Value.ownBlock] at hk
 ·simp [Value.ownBlock] at hk; rw [← hk]; exact hblk.lt
theorem RowOk.alloc {w : World} {base : Nat} {v : Value} (h : RowOk w base v) (o : Obj) : RowOk (w.alloc o) base v :=
 h.keep fun g hg => Below.heap_alloc w o g (h.lt g hg)
end Go.Proofs.YtgeofijddhflaaaGreatDoor
set_option linter.unusedVariables false
namespace Go.Proofs.YtgeofijddhflaaaGreatDoor
open Go.RowKit Oct
def IBlk (w : World) (A : Option Addr) (cap : Nat) (cur : List Value) : Prop := cur.length = cap ∧ (0 < cap → ∃ g, A = some ⟨g, 0, none⟩ ∧ Blk w g 3 cur.toArray)
theorem IBlk.of_own {w : World} {base : Nat} {v : Value} {z : List Int} (h : Is w base v z) : ∃ A cap cur, v = .slice A z.length cap ∧ cap ≤ 9223372036854775807 ∧ IBlk w A cap cur ∧ ∀ g, A = some ⟨g, 0, none⟩ → base ≤ g := by
 rcases Own.whole h with ⟨rfl, hz⟩ | ⟨g, cap, cur, rfl, hb, hg, hblk, hn, hc, hs, _⟩
 ·have : z = [] := by simpa using hz
  subst this
  exact ⟨none, 0, [], rfl, by omega, ⟨rfl, fun h => absurd h (by omega)⟩, fun g h => by cases h⟩
 ·rw [List.length_map]
  refine ⟨_, cap, cur.toList, rfl, by unfold maxLen at hc; omega, ⟨by simpa using hs, fun _ => ⟨g, rfl, by unfold Blk; simpa using hblk⟩⟩, fun g' h => ?_⟩
  injection h with h
  injection h with h
  omega
theorem IBlk.set {w : World} {g cap q : Nat} {x : Value} {cur : List Value} (hb : Blk w g 3 (List.replicate q x ++ cur.drop q).toArray) (hcs : cur.length = cap) (hq : q < cap) :
  IBlk (w.setCell ⟨g, q, none⟩ x) (some ⟨g, 0, none⟩) cap (List.replicate (q + 1) x ++ cur.drop (q + 1)) := by
 refine ⟨by simp; omega, fun _ => ⟨g, rfl, ?_⟩⟩
 rw [← fill_step cap q x cur (Nat.le_of_eq hcs.symm) hq]
 exact hb.set_ q x
theorem IBlk.far {w : World} {A : Option Addr} {cap : Nat} {cur : List Value} (h : IBlk w A cap cur) {g : Nat} (hne : A ≠ some ⟨g, 0, none⟩) (q : Nat) (u : Value) : IBlk (w.setCell ⟨g, q, none⟩ u) A cap cur := by
 refine ⟨h.1, fun h0 => ?_⟩
 obtain ⟨g', rfl, hb⟩ := h.2 h0
 exact ⟨g', rfl, hb.far (by rintro rfl; exact hne rfl) u⟩
theorem IBlk.keep {w w' : World} {A : Option Addr} {cap : Nat} {cur : List Value} (h : IBlk w A cap cur) (hk : ∀ g, A = some ⟨g, 0, none⟩ → w'.heap[g]? = w.heap[g]?) : IBlk w' A cap cur := by
 refine ⟨h.1, fun h0 => ?_⟩
 obtain ⟨g', rfl, hb⟩ := h.2 h0
 exact ⟨g', rfl, (hk g' rfl).trans hb⟩
end Go.Proofs.YtgeofijddhflaaaGreatDoor
