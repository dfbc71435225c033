/- The reference's pieces; pieces that can be read. Condition: as keep.Bytes. -/
import Derived.Test.YteehkcpokgeipaaGreatDoorKeepPieces
import Derived.Lib.SlBytesConst
import Derived.BigQuiet
set_option linter.unusedVariables false
namespace Go.Proofs.YteehkcpokgeipaaGreatDoor
open Go.RowKit Oct

/-- Pieces that can be read. -/
def PcRd (w : World) (B : Nat) (A : Option Addr) (i t many : Int) (ls : List (List UInt8)) : Prop :=
  ∀ k (hk : k < ls.length), ∃ g a c, A = some ⟨g, 0, none⟩ ∧ g < B ∧ w.cell? ⟨g, k * 5, none⟩ = some (.int .i64 i) ∧ w.cell? ⟨g, k * 5 + 1, none⟩ = some (.int .i64 t) ∧ w.cell? ⟨g, k * 5 + 2, none⟩ = some (.int .i64 k) ∧ w.cell? ⟨g, k * 5 + 3, none⟩ = some (.int .i64 many) ∧ w.cell? ⟨g, k * 5 + 4, none⟩ = some (.slice a ls[k].length c) ∧ Rd w B a (cells ls[k]) ∧ ls[k].length ≤ c
theorem PcRd.below {w w' : World} {B B' : Nat} {A : Option Addr} {i t many : Int} {ls : List (List UInt8)} (h : PcRd w B A i t many ls) (hb : Below B' w w') (hB : B ≤ B') : PcRd w' B A i t many ls := fun k hk => by
  obtain ⟨g, a, c, h1, h2, h3, h4, h5, h6, h7, h8, h9⟩ := h k hk
  have hc : ∀ j, w'.cell? ⟨g, j, none⟩ = w.cell? ⟨g, j, none⟩ := fun j => hb.cell (p := ⟨g, j, none⟩) (Nat.lt_of_lt_of_le h2 hB)
  exact ⟨g, a, c, h1, h2, (hc _).trans h3, (hc _).trans h4, (hc _).trans h5, (hc _).trans h6, (hc _).trans h7, h8.below (hb.mono hB), h9⟩
theorem PcRd.more {w : World} {B B' : Nat} {A : Option Addr} {i t many : Int} {ls : List (List UInt8)} (h : PcRd w B A i t many ls) (hB : B ≤ B') : PcRd w B' A i t many ls := fun k hk => by
  obtain ⟨g, a, c, h1, h2, h3, h4, h5, h6, h7, h8, h9⟩ := h k hk
  exact ⟨g, a, c, h1, by omega, h3, h4, h5, h6, h7, h8.more hB, h9⟩
theorem add_zero_lit (g j : Nat) : (⟨g, 0, none⟩ : Addr).add j = ⟨g, j, none⟩ := by unfold Addr.add; split <;> simp_all
theorem pcCells_get (i t many : Int) : ∀ (b : Nat) (xs : List Value) (k : Nat) (hk : k < xs.length), (pcCells i t many b xs)[k * 5]? = some (.int .i64 i) ∧ (pcCells i t many b xs)[k * 5 + 1]? = some (.int .i64 t) ∧ (pcCells i t many b xs)[k * 5 + 2]? = some (.int .i64 ((b + k : Nat) : Int)) ∧ (pcCells i t many b xs)[k * 5 + 3]? = some (.int .i64 many) ∧ (pcCells i t many b xs)[k * 5 + 4]? = some xs[k]
  | b, [], k, hk => absurd hk (by simp)
  | b, x :: r, 0, _ => by simp [pcCells]
  | b, x :: r, k + 1, hk => by
    have h := pcCells_get i t many (b + 1) r k (by simpa using hk)
    have e : ∀ j, (pcCells i t many b (x :: r))[(k + 1) * 5 + j]? = (pcCells i t many (b + 1) r)[k * 5 + j]? := fun j => by
      rw [show (k + 1) * 5 + j = (k * 5 + j) + 1 + 1 + 1 + 1 + 1 by omega]
      simp [pcCells]
    have e0 := e 0
    simp only [Nat.add_zero] at e0
    rw [e0, e 1, e 2, e 3, e 4, show b + (k + 1) = b + 1 + k by omega]
    simpa using h
theorem pcRd_of {w : World} {base B : Nat} {A : Option Addr} {c n : Nat} {i t many : Int} {xs : List Value} {ls : List (List UInt8)} (h : w.ownsRow base 102 5 (.slice A n c) n (pcCells i t many 0 xs)) (hn : n = xs.length) (hl : xs.length = ls.length) (hB : w.heap.size ≤ B)
    (hx : ∀ k (hk : k < xs.length) (hk' : k < ls.length), ∃ a c, xs[k] = .slice a ls[k].length c ∧ Rd w B a (cells ls[k]) ∧ ls[k].length ≤ c) : PcRd w B A i t many ls := fun k hk => by
  subst hn
  have hk' : k < xs.length := by omega
  obtain ⟨a, c', h1, h2, h2'⟩ := hx k hk' hk
  rcases h.2 with ⟨hv, h0⟩ | ⟨g, cap, cur, hv, hb, hg, r⟩
  · omega
  · injection hv with hA
    subst hA
    have hlt : g < w.heap.size := (Array.getElem?_eq_some_iff.1 hg).1
    obtain ⟨e0, e1, e2, e3, e4⟩ := pcCells_get i t many 0 xs k hk'
    have hc : ∀ j u, (pcCells i t many 0 xs)[j]? = some u → w.cell? ⟨g, j, none⟩ = some u := fun j u hj => by have := World.ownsRow.cells h (g := g) rfl j u hj; rwa [add_zero_lit] at this
    rw [Nat.zero_add] at e2
    rw [h1] at e4
    exact ⟨_, a, c', rfl, by show g < B; omega, hc _ _ e0, hc _ _ e1, hc _ _ e2, hc _ _ e3, hc _ _ e4, h2, h2'⟩
theorem GotPcs.pcRd {w : World} {base : Nat} {v : Value} {i t many : Int} {xs : List Value} {ls : List (List UInt8)} (h : GotPcs w base v i t many xs ls) : ∃ A c, v = .slice A ls.length c ∧ ls.length ≤ c ∧ PcRd w w.heap.size A i t many ls := by
  obtain ⟨A, c, rfl, h1, _⟩ := h.shape
  have hl := h.len
  refine ⟨A, c, by rw [hl], by omega, pcRd_of h.own rfl hl (Nat.le_refl _) (fun k hk hk' => ?_)⟩
  obtain ⟨a, c', h2, h3, _, h4⟩ := (h.got k hk hk').shape
  exact ⟨a, c', h2, h4, h3⟩

theorem ownsRow_shape {w : World} {base : Nat} {e : TypeId} {size n : Nat} {v : Value} {xs : List Value} (h : w.ownsRow base e size v n xs) : ∃ A c, v = .slice A n c ∧ n ≤ c ∧ c ≤ maxLen := by
  rcases h.2 with ⟨hv, h0⟩ | ⟨g, cap, cur, hv, hb, hg, hn, hc, _⟩
  · exact ⟨none, 0, by rw [hv, h0], by omega, by simp⟩
  · exact ⟨_, cap, hv, hn, hc⟩
end Go.Proofs.YteehkcpokgeipaaGreatDoor

/- Two rows of pieces that are one (pavaneref23.SamePieces). Condition: they can be read and hold the same. -/
set_option linter.unusedVariables false
namespace Go.Proofs.YteehkcpokgeipaaGreatDoor
open Go.RowKit Oct

end Go.Proofs.YteehkcpokgeipaaGreatDoor

/- The small case of layer 23 comes out right. No condition. -/
set_option linter.unusedVariables false
namespace Go.Proofs.YteehkcpokgeipaaGreatDoor
open Go.RowKit Oct

theorem small_facts : snapE 3 1 [1, 2] [100] = 0 ∧ snapS 3 1 [1, 2] [100] = [6, 2, 2, 2, 4, 100] ∧ oE [6, 2, 2, 2, 4, 100] = 0 ∧ oI [6, 2, 2, 2, 4, 100] = 3 := by
  refine ⟨by decide +kernel, by decide +kernel, by decide +kernel, by decide +kernel⟩
theorem small_facts2 : snapE 0 0 [] (List.replicate 500 0) = 0 ∧ (chunksL (snapS 0 0 [] (List.replicate 500 0))).length = 2 := by
  refine ⟨by decide +kernel, ?_⟩
  rw [chunksL_length]
  decide +kernel
set_option maxHeartbeats 4000000 in
set_option maxRecDepth 100000 in
theorem keepSmall (w : World) : Calls Tryz.prog 5 #[] w fun e w' => e = .returned (.bool true) ∧ Below w.heap.size w w' := by
  obtain ⟨F1, F2, F3, F4⟩ := small_facts
  obtain ⟨F5, F6⟩ := small_facts2
  have hF1 := Lib.hid F1
  have hF2 := Lib.hid F2
  have hF3 := Lib.hid F3
  have hF4 := Lib.hid F4
  have hF5 := Lib.hid F5
  have hF6 := Lib.hid F6
  have hsz1 : (w.alloc (.cells #[.int .i64 1, .int .i64 2] 3)).heap.size = w.heap.size + 1 := by simp
  have kc := Lib.run_convert_bytes_const (P := Tryz.prog) (w.alloc (.cells #[.int .i64 1, .int .i64 2] 3)) 27 5 #[.int .u8 100] 1 1 Tryz.underlying27 Tryz.underlying5
  rw [hsz1] at kc
  have hb0 := Lib.hid (((Below.refl w.heap.size w).alloc (Nat.le_refl _) (.cells #[.int .i64 1, .int .i64 2] 3)).alloc (by rw [hsz1]; omega) (.cells #[.int .u8 100] 5 (1, 2)))
  have hR1 : Rd ((w.alloc (.cells #[.int .i64 1, .int .i64 2] 3)).alloc (.cells #[.int .u8 100] 5 (1, 2))) ((w.alloc (.cells #[.int .i64 1, .int .i64 2] 3)).alloc (.cells #[.int .u8 100] 5 (1, 2))).heap.size (some ⟨w.heap.size, 0, none⟩) ([1, 2].map (Value.int .i64)) := fun _ =>
    ⟨_, rfl, by simp; omega, fun j u hj => by
      rw [add_zero_lit, World.cell?_alloc_lt _ _ _ (by rw [hsz1]; show w.heap.size < _; omega)]
      exact ((Blk.new w 3 #[.int .i64 1, .int .i64 2]).cell j).trans (by simpa using hj)⟩
  have hR2 : Rd ((w.alloc (.cells #[.int .i64 1, .int .i64 2] 3)).alloc (.cells #[.int .u8 100] 5 (1, 2))) ((w.alloc (.cells #[.int .i64 1, .int .i64 2] 3)).alloc (.cells #[.int .u8 100] 5 (1, 2))).heap.size (some ⟨w.heap.size + 1, 0, none⟩) (cells [100]) := fun _ =>
    ⟨_, rfl, by simp, fun j u hj => by
      rw [add_zero_lit]
      have h := cell_of_row ((w.alloc (.cells #[.int .i64 1, .int .i64 2] 3)).alloc (.cells #[.int .u8 100] 5 (1, 2))) (w.heap.size + 1) j #[.int .u8 100] 5 (1, 2) (by rw [← hsz1]; exact World.alloc_heap_new _ _)
      exact h.trans (by simpa [cells] using hj)⟩
  have HR1 := Lib.hid hR1
  have HR2 := Lib.hid hR2
  clear F1 F2 F3 F4 F5 F6 hR1 hR2 hsz1
  go_enter Tryz.func5, Tryz.ntmps5
  go_wp2_with fail
  generalize hW0 : (w.alloc (.cells #[.int .i64 1, .int .i64 2] 3)).alloc (.cells #[.int .u8 100] 5 (1, 2)) = W0 at HR1 HR2 hb0 ⊢
  clear kc hW0
  refine (bytes_any 3 1 (some ⟨w.heap.size, 0, none⟩) (some ⟨w.heap.size + 1, 0, none⟩) [1, 2] [100] 2 2 1 1 rfl rfl W0 HR1.out HR2.out (by simp) (by simp) (by simp)).mono ?_
  rintro e w1 ⟨v1, rfl, hg1, hb1⟩
  rw [hF1.out]
  rw [hF2.out] at hg1
  obtain ⟨A1, c1, rfl, hc1, hm1, hr1⟩ := hg1.shape
  have HG1 := Lib.hid hr1
  have hb01 := Lib.hid (hb0.out.trans (hb1.mono hb0.out.size))
  clear hb1 hb0 HR1 HR2 hg1
  go_wp2_with fail
  refine (read_any A1 [6, 2, 2, 2, 4, 100] 6 c1 rfl w1 HG1.out hc1 (by simp) hm1).mono ?_
  rintro e w2 ⟨V, rfl, hV, hb2⟩
  rw [hF3.out]
  rw [hF4.out] at hV
  obtain ⟨x, y, rfl, hx, hy, _⟩ := hV
  obtain ⟨Ax, cx, rfl, _⟩ := is_shape hx
  obtain ⟨Ay, cy, rfl, _⟩ := bs_shape hy
  generalize oT [6, 2, 2, 2, 4, 100] = T2
  generalize (oZ [6, 2, 2, 2, 4, 100]).length = nz
  generalize (oD [6, 2, 2, 2, 4, 100]).length = nd
  have hs12 : w1.heap.size ≤ w2.heap.size := hb2.size
  have hb02 := Lib.hid (hb01.out.trans (hb2.mono hb01.out.size))
  replace HG1 := Lib.hid ((HG1.out.below hb2).more hs12)
  clear hx hy hb2 hb01 hs12
  have hmk := fun W : World => run_make_one (P := Tryz.prog) Tryz.underlying27 info_u8 500 500 500 500 rfl rfl (Nat.le_refl _) (by decide) (by decide) W
  have hmk2 : (w2.alloc (.cells #[.int .i64 3, .int .i64 T2, .slice Ax nz cx, .slice Ay nd cy] 29)).heap.size = w2.heap.size + 1 := by simp
  have hb03 := Lib.hid ((hb02.out.alloc hb02.out.size (.cells #[.int .i64 3, .int .i64 T2, .slice Ax nz cx, .slice Ay nd cy] 29)).alloc (by rw [hmk2]; have := hb02.out.size; omega) (.cells (madeCells #[.int .u8 0] 500) 5))
  have hK := (Blk.new w2 29 #[.int .i64 3, .int .i64 T2, .slice Ax nz cx, .slice Ay nd cy]).alloc (.cells (madeCells #[.int .u8 0] 500) 5)
  have hZ : Blk ((w2.alloc (.cells #[.int .i64 3, .int .i64 T2, .slice Ax nz cx, .slice Ay nd cy] 29)).alloc (.cells (madeCells #[.int .u8 0] 500) 5)) (w2.heap.size + 1) 5 (cells (List.replicate 500 0)).toArray := by
    have h := Blk.new (w2.alloc (.cells #[.int .i64 3, .int .i64 T2, .slice Ax nz cx, .slice Ay nd cy] 29)) 5 (madeCells #[.int .u8 0] 500)
    rw [hmk2] at h
    have e : madeCells #[Value.int .u8 0] 500 = (cells (List.replicate 500 0)).toArray := by
      apply Array.toList_inj.1
      rw [toList_madeCells_one]
      simp [cells]
    rw [e] at h ⊢
    exact h
  have hK := Lib.hid hK
  have hZ := Lib.hid hZ
  clear hmk2
  go_wp2_with fail
  have hs3 : ((w2.alloc (.cells #[.int .i64 3, .int .i64 T2, .slice Ax nz cx, .slice Ay nd cy] 29)).alloc (.cells (madeCells #[.int .u8 0] 500) 5)).heap.size = w2.heap.size + 2 := by simp
  have hB23 : Below w2.heap.size w2 ((w2.alloc (.cells #[.int .i64 3, .int .i64 T2, .slice Ax nz cx, .slice Ay nd cy] 29)).alloc (.cells (madeCells #[.int .u8 0] 500) 5)) := ((Below.refl _ w2).alloc (Nat.le_refl _) _).alloc (by simp) _
  generalize hW3 : (w2.alloc (.cells #[.int .i64 3, .int .i64 T2, .slice Ax nz cx, .slice Ay nd cy] 29)).alloc (.cells (madeCells #[.int .u8 0] 500) 5) = W3 at hK hZ hb03 hs3 hB23 ⊢
  clear hW3 hmk
  have hR3 : Rd W3 W3.heap.size (some ⟨w2.heap.size + 1, 0, none⟩) (cells (List.replicate 500 0)) := fun _ => ⟨_, rfl, by rw [hs3]; show w2.heap.size + 1 < _; omega, fun j u hj => blk_add hZ.out j u hj⟩
  have hE5 : snapE 0 0 [] (List.replicate 500 0) = 0 := hF5.out
  refine (pieces_any 0 0 none (some ⟨w2.heap.size + 1, 0, none⟩) [] (List.replicate 500 0) 0 0 500 500 rfl (by simp) W3 Rd.none_ hR3 (by simp) (by simp) (by simp)).mono ?_
  rintro e w4 ⟨v4, xs, rfl, hp4, hb4⟩
  rw [hE5]
  obtain ⟨A4, c4, rfl, _⟩ := hp4.shape
  have hl4 : xs.length = 2 := hp4.len.trans hF6.out
  rw [hl4]
  have k0 : w4.cell? ⟨w2.heap.size, 0, none⟩ = some (.int .i64 3) := (hb4.cell (p := ⟨w2.heap.size, 0, none⟩) (by show w2.heap.size < _; omega)).trans (hK.out.cell 0)
  have q1 : (convert 27 9 (.slice A1 6 c1)).run Tryz.prog w4 = .ok (.string { data := #[6, 2, 2, 2, 4, 100] }) w4 := str_of c1 (((HG1.out.below hB23).below (hb4.mono hB23.size)))
  have hb04 := Lib.hid (hb03.out.trans (hb4.mono hb03.out.size))
  clear hp4 hb4 hb03 hK hZ HG1 hE5 hR3 hB23
  go_wp2
  go_ret
  exact ⟨rfl, hb04.out⟩
end Go.Proofs.YteehkcpokgeipaaGreatDoor
