/- The check sum of any parts: the walk of the statement. No condition. -/
import Derived.Test.YtelplpajpfkfiaaRowsP
import Derived.Test.YtelplpajpfkfiaaRowsR
import Derived.Lib.SlBytesConst
set_option linter.unusedVariables false
namespace Go.Proofs.Ytelplpajpfkfiaa
open Go.RowKit Oct

/-- Bytes out of a constant string: a block of its own, marked behind its end. -/
theorem rd_const (w : World) (l : List UInt8) (m : Nat × Nat) : Rd (w.alloc (.cells (cells l).toArray 5 m)) (w.heap.size + 1) (some ⟨w.heap.size, 0, none⟩) (cells l) := by
  intro _
  refine ⟨_, rfl, by simp, fun j u hu => ?_⟩
  rw [show (⟨w.heap.size, 0, none⟩ : Addr).add j = ⟨w.heap.size, j, none⟩ by simp [Addr.add_lit]]
  rw [cell_of_row _ w.heap.size j (cells l).toArray 5 m (heap_alloc_new w _)]
  simpa using hu
/-- The run of the conversion of a constant string's bytes: the first, and one behind another block. -/
theorem run_const (w : World) (C : Array Value) (n c : Nat) : (convert 22 22 (.slice (some ⟨w.heap.size, 0, none⟩) n c)).run Try.prog (w.alloc (.cells C 5)) = .ok (.slice (some ⟨w.heap.size, 0, none⟩) n c) (w.alloc (.cells C 5 (C.size, C.size + 1))) :=
  Lib.run_convert_bytes_const (P := Try.prog) w 22 5 C n c Try.underlying22 Try.underlying5
theorem run_const1 (w : World) (o : Obj) (C : Array Value) (n c : Nat) : (convert 22 22 (.slice (some ⟨w.heap.size + 1, 0, none⟩) n c)).run Try.prog ((w.alloc o).alloc (.cells C 5)) = .ok (.slice (some ⟨w.heap.size + 1, 0, none⟩) n c) ((w.alloc o).alloc (.cells C 5 (C.size, C.size + 1))) := by
  have := run_const (w.alloc o) C n c
  rwa [show (w.alloc o).heap.size = w.heap.size + 1 by simp] at this
theorem sum_small : Crc.sum [49, 50, 51, 52, 53, 54, 55, 56, 57] = 4236843288 := by decide +kernel
set_option maxHeartbeats 2000000 in
set_option maxRecDepth 100000 in
theorem sealSums_walk (w : World) (A : Option Addr) (a : List UInt8) (ca : Nat) (ha : In8 w A a ca) (B : Option Addr) (b : List UInt8) (cb : Nat) (hb : In8 w B b cb) :
    Calls Try.prog 4 #[.slice A a.length ca, .slice B b.length cb] w fun e w' => e = .returned (.bool true) ∧ Below w.heap.size w w' := by
  by_cases h1 : 1048576 < a.length
  · go_enter Try.func4, Try.ntmps4
    go_wp2
    go_ret
    exact ⟨rfl, Below.refl _ _⟩
  by_cases h2 : 1048576 < b.length
  · go_enter Try.func4, Try.ntmps4
    go_wp2
    go_ret
    exact ⟨rfl, Below.refl _ _⟩
  have kc := run_const
  have kc1 := run_const1
  go_enter Try.func4, Try.ntmps4
  go_wp2_with fail
  refine (lent_any A a ca w ha.rd (by omega)).mono ?_
  rintro e w1 ⟨rfl, hl1, hb1⟩
  have hp2 : RRd w1 w1.heap.size [Row.mk (some ⟨w.heap.size, 0, none⟩) a (a.length + 1), Row.mk B b cb] := .cons (hl1.rd.more hl1.lt) (by omega) (.cons ((hb.rd.below hb1).more hb1.size) (by omega) .nil)
  obtain ⟨k1, k2⟩ := rows_lit w1 22 _ hp2
  have K1 := Lib.hid k1
  have K2 := Lib.hid k2
  have hbA := hb1.alloc hb1.size (.cells ([Row.mk (some ⟨w.heap.size, 0, none⟩) a (a.length + 1), Row.mk B b cb].map Row.val).toArray 22)
  have hbX := (Below.refl w1.heap.size w1).alloc (Nat.le_refl _) (.cells ([Row.mk (some ⟨w.heap.size, 0, none⟩) a (a.length + 1), Row.mk B b cb].map Row.val).toArray 22)
  have HL1 := Lib.hid hl1
  have HF : Hid (flat [Row.mk (some ⟨w.heap.size, 0, none⟩) a (a.length + 1), Row.mk B b cb] = a ++ b) := Lib.hid (by simp [flat])
  clear k1 k2 hp2 hl1
  go_wp2_with fail
  refine (sum_any _ _ 2 2 rfl _ K1.out K2.out (by simp)).mono ?_
  rintro e w2 ⟨rfl, hb2⟩
  rw [HF.out]
  have hbX2 := hbX.trans (hb2.mono hbX.size)
  have hb12 := hbA.trans (hb2.mono hbA.size)
  have hl2 := HL1.out.below hbX2 HL1.out.lt
  clear hb2 hbX hbA K1 K2 HL1 hbX2 hb1
  go_wp2_with fail
  refine (kept_any w.heap.size A a ca w.heap.size w2 hl2 (ha.rd.below hb12) (by omega)).mono ?_
  rintro e w2' ⟨rfl, rfl⟩
  have hcap := ha.cap
  have hcap2 := hb.cap
  go_wp2_with (first | (at_builtin; refine wpList_app0 rfl (.tmp 26) (.tmp 27) 22 rfl 5 (.int .u8 0) 1 Try.underlying22 info_u8 rfl rfl A a.length ca _ rfl (cells_length _).symm ((ha.rd.below hb12).more hb12.size) (bytes_one _) (by omega) (by omega) ?_; intro v3 w3 hov3 hb3) | (at_builtin; refine wpList_app1 (W := w2) rfl (.tmp 28) (.tmp 29) 22 rfl 5 (.int .u8 0) 1 Try.underlying22 info_u8 rfl v3 (cells a) rfl w2.heap.size hb3 (Nat.le_refl _) hov3 w.heap.size B b.length cb _ rfl (cells_length _).symm (hb.rd.below (hb12.trans (hb3.mono hb12.size))) (bytes_one _) (by rw [cells_length]; omega) (by rw [cells_length]; omega) ?_; intro v4 w4 hov4 hb4))
  rw [← cells_append] at hov4
  obtain ⟨A4, c4, rfl, hc4, hm4, hr4⟩ := bs_shape hov4
  have hb14 := hb12.trans (hb4.mono hb12.size)
  have hab : (a ++ b).length = a.length + b.length := List.length_append
  have HAB := Lib.hid hab
  have hs := Crc.sum_lt (a ++ b)
  obtain ⟨X, hX⟩ : ∃ X, X = a ++ b := ⟨_, rfl⟩
  rw [← hX] at hr4 HAB ⊢
  clear hov3 hb3 hov4 hb4 hl2 hb12 hX hab hc4
  go_wp2_with fail
  refine (rsum_any A4 X _ c4 _ rfl w4 hr4 (by have := HAB.out; omega)).mono ?_
  rintro e w5 ⟨rfl, rfl⟩
  have q1 := rd_const w4 [49, 50] (2, 3)
  have q2 := rd_const (w4.alloc (.cells (cells [49, 50]).toArray 5 (2, 3))) [51, 52, 53, 54, 55, 56, 57] (7, 8)
  have hbC := (hb14.alloc hb14.size (.cells (cells [49, 50]).toArray 5 (2, 3))).alloc (by simp; have := hb14.size; omega) (.cells (cells [51, 52, 53, 54, 55, 56, 57]).toArray 5 (7, 8))
  have hp3 : RRd ((w4.alloc (.cells (cells [49, 50]).toArray 5 (2, 3))).alloc (.cells (cells [51, 52, 53, 54, 55, 56, 57]).toArray 5 (7, 8))) ((w4.alloc (.cells (cells [49, 50]).toArray 5 (2, 3))).alloc (.cells (cells [51, 52, 53, 54, 55, 56, 57]).toArray 5 (7, 8))).heap.size
      [Row.mk (some ⟨w4.heap.size, 0, none⟩) [49, 50] 2, Row.mk none [] 0, Row.mk (some ⟨w4.heap.size + 1, 0, none⟩) [51, 52, 53, 54, 55, 56, 57] 7] := by
    refine .cons ((q1.alloc (by simp) _).more (by simp)) (by simp) (.cons (cells_nil ▸ Rd.none_) (by simp) (.cons ?_ (by simp) .nil))
    simpa using q2
  obtain ⟨k1, k2⟩ := rows_lit _ 22 _ hp3
  have hz : (⟨((w4.alloc (.cells (cells [49, 50]).toArray 5 (2, 3))).alloc (.cells (cells [51, 52, 53, 54, 55, 56, 57]).toArray 5 (7, 8))).heap.size, 0, none⟩ : Addr) = ⟨w4.heap.size + 2, 0, none⟩ := by simp
  replace k1 := (congrArg (fun a => Rd _ _ (some a) _) hz).mp k1
  have K1 := Lib.hid k1
  have K2 := Lib.hid k2
  have hbD := hbC.alloc hbC.size (.cells ([Row.mk (some ⟨w4.heap.size, 0, none⟩) [49, 50] 2, Row.mk none [] 0, Row.mk (some ⟨w4.heap.size + 1, 0, none⟩) [51, 52, 53, 54, 55, 56, 57] 7].map Row.val).toArray 22)
  have HD := Lib.hid hbD
  have HF3 : Hid (flat [Row.mk (some ⟨w4.heap.size, 0, none⟩) [49, 50] 2, Row.mk none [] 0, Row.mk (some ⟨w4.heap.size + 1, 0, none⟩) [51, 52, 53, 54, 55, 56, 57] 7] = [49, 50, 51, 52, 53, 54, 55, 56, 57]) := Lib.hid rfl
  clear q1 q2 hbC hp3 k1 k2 hbD
  go_wp2_with fail
  refine (sum_any (some ⟨w4.heap.size + 2, 0, none⟩) _ 3 3 rfl _ K1.out K2.out (by simp)).mono ?_
  rintro e w5 ⟨rfl, hb5⟩
  rw [HF3.out, sum_small]
  have hb15 := HD.out.trans (hb5.mono HD.out.size)
  go_wp2
  go_ret
  exact ⟨rfl, hb15⟩
end Go.Proofs.Ytelplpajpfkfiaa
