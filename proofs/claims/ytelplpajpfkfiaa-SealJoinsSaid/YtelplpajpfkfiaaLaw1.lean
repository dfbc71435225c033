/- The statements' own helpers of layer 1: Lent, Kept: bytes with spare room, in which a mark stands. Condition: the bytes can be read, at most 2^47. -/
import Derived.Test.YtelplpajpfkfiaaTaker
set_option linter.unusedVariables false
namespace Go.Proofs.Ytelplpajpfkfiaa
open Go.RowKit Oct

/-- Bytes lent: a block of these and a mark. -/
def LentAt (w : World) (g : Nat) (l : List UInt8) : Prop := Blk w g 5 (cells l ++ [Value.int .u8 77]).toArray
def zeros (n : Nat) : Array Value := madeCells #[.int .u8 0] n
theorem zeros_eq (n : Nat) : zeros n = (List.replicate n (Value.int .u8 0)).toArray := by
  have := toList_madeCells_one (.int .u8 0) n
  unfold zeros
  rw [← this]
theorem bytes_one (l : List UInt8) : ∀ u ∈ cells l, u.oneCell' = true := by
  intro u hu
  obtain ⟨_, _, rfl⟩ := List.mem_map.1 hu
  rfl

set_option maxRecDepth 100000 in
theorem lent_any (A : Option Addr) (l : List UInt8) (c : Nat) (w : World) (hr : Rd w w.heap.size A (cells l)) (hl : l.length ≤ 140737488351232) :
    Calls Try.prog 20 #[.slice A l.length c] w fun e w' => e = .returned (.slice (some ⟨w.heap.size, 0, none⟩) l.length (l.length + 1)) ∧ LentAt w' w.heap.size l ∧ Below w.heap.size w w' := by
  have hmk : ∀ W : World, (Instr.makeSlice 22 (.int .i64 (l.length : Int)) (.int .i64 ((l.length : Int) + 1))).run Try.prog W = .ok (.slice (some ⟨W.heap.size, 0, none⟩) l.length (l.length + 1)) (W.alloc (.cells (zeros (l.length + 1)) 5)) :=
    fun W => run_make_one (P := Try.prog) Try.underlying22 info_u8 l.length (l.length + 1) (l.length : Int) ((l.length : Int) + 1) rfl (by simp) (by omega) (by omega) (by omega) W
  go_enter Try.func20, Try.ntmps20
  have hblk : Blk (w.alloc (.cells (zeros (l.length + 1)) 5)) w.heap.size 5 (List.replicate (l.length + 1) (Value.int .u8 0)).toArray := by rw [← zeros_eq]; exact Blk.new _ _ _
  have hb0 : Below w.heap.size w (w.alloc (.cells (zeros (l.length + 1)) 5)) := (Below.refl _ _).alloc (Nat.le_refl _) _
  have hr0 : Rd (w.alloc (.cells (zeros (l.length + 1)) 5)) w.heap.size A (cells l) := hr.below hb0
  have HB := Lib.hid hblk
  clear hblk
  go_wp2_with (with_reducible refine wpList_copy_head rfl (.tmp 10) (.tmp 11) 22 22 rfl 5 _ 1 Try.underlying22 info_u8 w.heap.size l.length (l.length + 1) A l.length c rfl rfl _ 5 HB.out w.heap.size (cells l) (cells_length l).symm hr0 (Nat.le_refl _) (by simp) (bytes_one l) ?_)
  intro w1 hblk1 hg1
  have hb1 : Below w.heap.size w w1 := hb0.grown hg1 hb0.size (by simp)
  have hc1 : w1.cell? ⟨w.heap.size, l.length, none⟩ = some (.int .u8 0) := by rw [hblk1.cell]; simp [cells]
  have hf1 := hblk1.frozen l.length
  have hbl2 : LentAt (w1.setCell ⟨w.heap.size, l.length, none⟩ (.int .u8 77)) w.heap.size l := by
    have := hblk1.set_ l.length (.int .u8 77)
    unfold LentAt
    rw [show (cells l ++ [Value.int .u8 77]).toArray = (cells l ++ [Value.int .u8 0]).toArray.setIfInBounds l.length (.int .u8 77) by simp [cells]]
    exact this
  have hb2 : Below w.heap.size w (w1.setCell ⟨w.heap.size, l.length, none⟩ (.int .u8 77)) := hb1.setCell (Nat.le_refl _) _
  clear HB hblk1 hg1 hb0 hb1 hr0 hr
  go_wp2
  go_ret
  exact ⟨rfl, hbl2, hb2⟩

set_option maxRecDepth 100000 in
theorem kept_any (g : Nat) (A : Option Addr) (l : List UInt8) (c B : Nat) (w : World) (hb : LentAt w g l) (hr : Rd w B A (cells l)) (hl : l.length ≤ 140737488351232) :
    Calls Try.prog 22 #[.slice (some ⟨g, 0, none⟩) l.length (l.length + 1), .slice A l.length c] w fun e w' => e = .returned (.bool true) ∧ w = w' := by
  have k1 := str_of (w := w) (l := l) (A := some ⟨g, 0, none⟩) (B := w.heap.size) (l.length + 1) (by
    intro _
    refine ⟨_, rfl, Blk.lt hb, fun j u hu => ?_⟩
    rw [show (⟨g, 0, none⟩ : Addr).add j = ⟨g, j, none⟩ by simp [Addr.add_lit], Blk.cell hb]
    have hj : j < (cells l).length := (List.getElem?_eq_some_iff.1 hu).1
    simp only [List.getElem?_toArray]
    rw [List.getElem?_append_left hj]
    exact hu)
  have k2 := str_of c hr
  have hc : w.cell? ⟨g, l.length, none⟩ = some (.int .u8 77) := by rw [Blk.cell hb]; simp [cells]
  clear hb hr
  go_enter Try.func22, Try.ntmps22
  go_wp2
  go_ret
  exact ⟨rfl, rfl⟩
end Go.Proofs.Ytelplpajpfkfiaa
