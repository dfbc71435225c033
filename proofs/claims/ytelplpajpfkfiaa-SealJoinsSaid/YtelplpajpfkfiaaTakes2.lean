/- octet's TakeText and TakeInts. Condition: the bytes are read below the heap's end, at most 2^47. -/
import Derived.Test.YtelplpajpfkfiaaTakes
set_option linter.unusedVariables false
namespace Go.Proofs.Ytelplpajpfkfiaa
open Go.RowKit Oct

/-- What TakeText answers. -/
def takeT (l : List UInt8) : List UInt8 × Nat × Int :=
  if (lenOf 65535 l).2 = 0 then
    (if l.length - (cnt maxI l).2.1 < (lenOf 65535 l).1 then ([], 0, 3) else ((l.drop (cnt maxI l).2.1).take (lenOf 65535 l).1, (cnt maxI l).2.1 + (lenOf 65535 l).1, 0))
  else ([], 0, (lenOf 65535 l).2)

theorem takeText_err (A : Option Addr) (l : List UInt8) (c : Nat) (w : World) (hr : Rd w w.heap.size A (cells l)) (hl : l.length ≤ 4611686018427387904) (he : (lenOf 65535 l).2 ≠ 0) :
    Calls Try.prog 33 #[.slice A l.length c] w fun e w' => e = .returned (.tuple #[.string (str (takeT l).1), .int .i64 (takeT l).2.1, .int .i64 (takeT l).2.2]) ∧ Below w.heap.size w w' := by
  have hfin : takeT l = ([], 0, (lenOf 65535 l).2) := if_neg he
  rw [hfin]
  have HE := Lib.hid he
  clear he hfin
  go_enter Try.func33, Try.ntmps33
  go_wp2_with fail
  refine (length_any w.heap.size 65535 A l c _ (tk_new _ _) hl (hr.alloc (Nat.le_refl _) _) (by omega)).mono ?_
  rintro e w1 ⟨rfl, htk, hg⟩
  have hb := below_box hg
  clear hg
  obtain ⟨h0, h1, h2, f0, f1⟩ := tk_cells htk
  go_wp2_with fail
  refine (on_err _ _ _ _ _ _ _ htk HE.out).mono ?_
  rintro e w2 ⟨rfl, rfl⟩
  go_wp2_with fail
  go_quiet (fail)
  go_wp2
  go_ret3
  exact ⟨rfl, below_drewN hb _⟩

theorem takeText_end (A : Option Addr) (l : List UInt8) (c : Nat) (w : World) (hr : Rd w w.heap.size A (cells l)) (hl : l.length ≤ 4611686018427387904) (he : (lenOf 65535 l).2 = 0)
    (hlt : l.length - (cnt maxI l).2.1 < (lenOf 65535 l).1) :
    Calls Try.prog 33 #[.slice A l.length c] w fun e w' => e = .returned (.tuple #[.string (str (takeT l).1), .int .i64 (takeT l).2.1, .int .i64 (takeT l).2.2]) ∧ Below w.heap.size w w' := by
  have hfin : takeT l = ([], 0, 3) := by unfold takeT; rw [if_pos he, if_pos hlt]
  rw [hfin]
  have HE := Lib.hid he
  have hu := cnt_used maxI l
  clear he hfin
  go_enter Try.func33, Try.ntmps33
  go_wp2_with fail
  refine (length_any w.heap.size 65535 A l c _ (tk_new _ _) hl (hr.alloc (Nat.le_refl _) _) (by omega)).mono ?_
  rintro e w1 ⟨rfl, htk, hg⟩
  rw [HE.out] at htk
  have hb := below_box hg
  clear hg
  go_wp2_with fail
  refine (on_end _ _ _ _ _ _ htk (by omega) (by omega) (by omega)).mono ?_
  rintro e w2 ⟨rfl, htk2, hg2⟩
  have hb2 : Below w.heap.size w w2 := hb.grown hg2 hb.size (by simp)
  obtain ⟨h0, h1, h2, f0, f1⟩ := tk_cells htk2
  clear hg2 hb htk
  go_wp2_with fail
  go_quiet (fail)
  go_wp2
  go_ret3
  exact ⟨rfl, below_drewN hb2 _⟩

set_option maxHeartbeats 400000 in
theorem takeText_ok (A : Option Addr) (l : List UInt8) (c : Nat) (w : World) (hr : Rd w w.heap.size A (cells l)) (hlc : l.length ≤ c) (hl : l.length ≤ 4611686018427387904 ∧ c ≤ 9223372036854775807) (he : (lenOf 65535 l).2 = 0)
    (hlt : ¬ l.length - (cnt maxI l).2.1 < (lenOf 65535 l).1) :
    Calls Try.prog 33 #[.slice A l.length c] w fun e w' => e = .returned (.tuple #[.string (str (takeT l).1), .int .i64 (takeT l).2.1, .int .i64 (takeT l).2.2]) ∧ Below w.heap.size w w' := by
  have hfin : takeT l = ((l.drop (cnt maxI l).2.1).take (lenOf 65535 l).1, (cnt maxI l).2.1 + (lenOf 65535 l).1, 0) := by unfold takeT; rw [if_pos he, if_neg hlt]
  rw [hfin]
  have HE := Lib.hid he
  have hu := cnt_used maxI l
  clear he hfin
  go_enter Try.func33, Try.ntmps33
  go_wp2_with fail
  refine (length_any w.heap.size 65535 A l c _ (tk_new _ _) (by omega) (hr.alloc (Nat.le_refl _) _) (by omega)).mono ?_
  rintro e w1 ⟨rfl, htk, hg⟩
  rw [HE.out] at htk
  have hb := below_box hg
  clear hg
  go_wp2_with fail
  refine (on_ok _ _ _ _ _ _ htk (by omega) (by omega) (by omega) (by omega) (by omega) (by omega)).mono ?_
  rintro e w2 ⟨rfl, htk2, hg2⟩
  have hb2 : Below w.heap.size w w2 := hb.grown hg2 hb.size (by simp)
  obtain ⟨h0, h1, h2, f0, f1⟩ := tk_cells htk2
  have hr2 := hr.below hb2
  clear hg2 hb htk
  have hcut := fun W : World => run_cut (P := Try.prog) Try.underlying22 info_u8 A l.length c (cnt maxI l).2.1 ((cnt maxI l).2.1 + (lenOf 65535 l).1) (by omega) (by omega) (((cnt maxI l).2.1 : Nat) : Int) (((cnt maxI l).2.1 : Int) + ((lenOf 65535 l).1 : Int)) rfl (by simp) W
  rw [Nat.add_sub_cancel_left] at hcut
  have hrd : Rd w2 w.heap.size (cutA A (cnt maxI l).2.1 c) (cells ((l.drop (cnt maxI l).2.1).take (lenOf 65535 l).1)) := by
    have := (Rd.cutA hr2 (k := (cnt maxI l).2.1) (cap := c) (by rw [cells_length]; omega) (by rw [cells_length]; omega)).take (lenOf 65535 l).1
    simpa [cells, List.map_take, List.map_drop] using this
  have hstr : ∀ q, (convert 22 9 (.slice (cutA A (cnt maxI l).2.1 c) (lenOf 65535 l).1 (c - (cnt maxI l).2.1))).run Try.prog (w2.drewN q) = .ok (.string (str ((l.drop (cnt maxI l).2.1).take (lenOf 65535 l).1))) (w2.drewN q) := fun q => by
    have := str_of (w := w2.drewN q) (c - (cnt maxI l).2.1) (hrd.drewN q)
    rw [show ((l.drop (cnt maxI l).2.1).take (lenOf 65535 l).1).length = (lenOf 65535 l).1 by simp; omega] at this
    exact this
  have hw1 : IntKind.i64.wrap (((cnt maxI l).2.1 : Int) + ((lenOf 65535 l).1 : Int) - ((lenOf 65535 l).1 : Int)) = ((cnt maxI l).2.1 : Int) := by rw [IntWalk.i64_in _ (by omega)]; omega
  have hw2 : IntKind.i64.wrap (((cnt maxI l).2.1 : Nat) : Int) = ((cnt maxI l).2.1 : Int) := IntWalk.i64_in _ (by omega)
  clear hr2 hr hrd
  go_wp2_with fail
  go_quiet (fail)
  go_wp2
  go_ret3
  exact ⟨rfl, below_drewN hb2 _⟩

theorem takeText_any (A : Option Addr) (l : List UInt8) (c : Nat) (w : World) (hr : Rd w w.heap.size A (cells l)) (hlc : l.length ≤ c) (hl : l.length ≤ 4611686018427387904 ∧ c ≤ 9223372036854775807) :
    Calls Try.prog 33 #[.slice A l.length c] w fun e w' => e = .returned (.tuple #[.string (str (takeT l).1), .int .i64 (takeT l).2.1, .int .i64 (takeT l).2.2]) ∧ Below w.heap.size w w' := by
  by_cases he : (lenOf 65535 l).2 = 0
  · by_cases hlt : l.length - (cnt maxI l).2.1 < (lenOf 65535 l).1
    · exact takeText_end A l c w hr (by omega) he hlt
    · exact takeText_ok A l c w hr hlc hl he hlt
  · exact takeText_err A l c w hr (by omega) he

/-- What the loop of TakeInts comes to: how many are left, how far, what was taken. -/
def tz (l : List UInt8) : Nat → Nat → List Int → List Int × Nat × Int
  | 0, a, acc => (acc, a, 0)
  | n + 1, a, acc => if (cnt maxU (l.drop a)).2.2 = 0 then tz l n (a + (cnt maxU (l.drop a)).2.1) (acc ++ [unfold1 (cnt maxU (l.drop a)).1]) else ([], 0, (cnt maxU (l.drop a)).2.2)
/-- What TakeInts answers. -/
def takeZ (l : List UInt8) : List Int × Nat × Int :=
  if (lenOf 4096 l).2 = 0 then tz l (lenOf 4096 l).1 (cnt maxI l).2.1 [] else ([], 0, (lenOf 4096 l).2)
end Go.Proofs.Ytelplpajpfkfiaa
