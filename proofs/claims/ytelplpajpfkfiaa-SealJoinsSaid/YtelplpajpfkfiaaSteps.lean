/- seal.steps: the table. No condition. -/
import Derived.Test.YtelplpajpfkfiaaCrc
import Derived.Test.YtelplpajpfkfiaaApp
import Derived.Deep.DeepCutAuto
set_option linter.unusedVariables false
namespace Go.Proofs.Ytelplpajpfkfiaa
open Go.RowKit Oct

/-- The table's cells. -/
def TabOk (cs : Array Value) (k : Nat) : Prop := cs.size = 256 ∧ ∀ j, j < k → cs[j]? = some (.int .u32 (Crc.tab j : Nat))
theorem TabOk.start : TabOk Try.zeroCells87 0 := ⟨Try.zeroCells87_size, fun j h => absurd h (by omega)⟩
theorem TabOk.set {cs : Array Value} {k : Nat} (h : TabOk cs k) (hk : k < 256) : TabOk (cs.setIfInBounds k (.int .u32 (Crc.tab k : Nat))) (k + 1) := by
  refine ⟨by rw [Array.size_setIfInBounds]; exact h.1, fun j hj => ?_⟩
  by_cases hjk : j = k
  · subst hjk
    rw [Array.getElem?_setIfInBounds_self_of_lt (by rw [h.1]; exact hk)]
  · rw [Array.getElem?_setIfInBounds_ne (by omega)]
    exact h.2 j (by omega)

theorem TabOk.one {cs : Array Value} (h : TabOk cs 256) : cs.all (·.oneCell') = true := by
  rw [Array.all_eq_true]
  intro i hi
  have h2 := h.2 i (by rw [h.1] at hi; exact hi)
  rw [Array.getElem?_eq_getElem hi] at h2
  rw [Option.some.inj h2]
  rfl
theorem tab_info : (Try.prog.info? 87).map (·.size) = some 256 := by kernel_rfl
section
variable {w : World} {g : Nat} {cs cs' : Array Value}
/-- A whole table out of its block, and into it. -/
theorem tab_load1 (hb : Blk w g 87 cs) (hsz : cs.size = 256) : (Instr.loadAt 87 (.pointer (some ⟨g, 0, none⟩))).run Try.prog w = .ok (.agg cs) w := by
  simp only [Instr.loadAt, Instr.sureAddr, Sem.run_bind, Sem.run_pure, Result.andThen]
  exact run_loadVar_row _ _ _ _ _ _ _ hb Try.underlying87 rfl (by rw [hsz]; exact tab_info)
theorem tab_load2 (hb : Blk w g 87 cs) (hsz : cs.size = 256) : (loadCellsFrom ⟨g, 0, none⟩ 0 256 #[]).run Try.prog w = .ok cs w := by
  have := run_loadCells_list (P := Try.prog) w ⟨g, 0, none⟩ cs.toList (fun j v hv => by
    have hadd : (⟨g, 0, none⟩ : Addr).add j = ⟨g, j, none⟩ := by simp [Addr.add_lit]
    rw [hadd, hb.cell]
    simpa using hv)
  rw [Array.length_toList, hsz, Array.toArray_toList] at this
  exact this
theorem tab_store1 (hb : Blk w g 87 cs) (hsz : cs.size = 256) (hsz' : cs'.size = 256) (h1 : cs'.all (·.oneCell') = true) : (Instr.storeAt 87 (.pointer (some ⟨g, 0, none⟩)) (.agg cs')).run Try.prog w = .ok () (w.setRow g cs') := by
  simp only [Instr.storeAt, Instr.sureAddr, Sem.run_bind, Sem.run_pure, Result.andThen]
  exact run_storeVar_row _ _ _ _ _ _ hb (by rw [hsz']; exact tab_info) (by rw [hsz, hsz']) h1
theorem tab_store2 (hb : Blk w g 87 cs) (hsz : cs.size = 256) (hsz' : cs'.size = 256) (h1 : cs'.all (·.oneCell') = true) : (storeCells ⟨g, 0, none⟩ cs'.toList 0).run Try.prog w = .ok () (w.setRow g cs') :=
  run_storeCells_from (P := Try.prog) g 87 cs'.toList 0 cs w hb (by simp; omega) (fun v hv => (Array.all_eq_true_iff_forall_mem.1 h1) v (by simpa using hv))
theorem setRow_same (hb : Blk w g 87 cs) : w.setRow g cs = w := by
  unfold World.setRow
  congr 1
  apply Array.ext_getElem?
  intro i
  rw [Array.getElem?_modify]
  split
  · rename_i h
    subst h
    rw [show w.heap[g]? = _ from hb]
    rfl
  · rfl
end

set_option maxRecDepth 100000 in
theorem steps_at (w : World) : Calls Try.prog 67 #[] w fun e w' => ∃ cs, e = .returned (.agg cs) ∧ TabOk cs 256 ∧ Below w.heap.size w w' := by
  go_enter Try.func67, Try.ntmps67
  go_wp2_with fail
  go_loopw [3, 1, 2] (fun i y1 y2 wr => ∃ k : Nat, k ≤ 256 ∧ i = .int .i64 k ∧ ∃ cs, Blk wr w.heap.size 87 cs ∧ Hid (TabOk cs k) ∧ Below w.heap.size w wr) (fun i _ _ _ => 256 - (intOf i).toNat)
  case atStart => exact ⟨0, by omega, rfl, _, Blk.new _ _ _, Lib.hid TabOk.start, (Below.refl _ _).alloc (Nat.le_refl _) _⟩
  case round =>
    obtain ⟨k, hk, rfl, cs, hblk, htab, hb⟩ := hrel
    by_cases hlt : k < 256
    · go_wp2_with fail
      obtain ⟨wo, hwo⟩ : ∃ wo : World, wo = wr := ⟨_, rfl⟩
      rw [← hwo] at hblk hb ⊢
      clear hwo
      go_loop [9, 2] (fun i r => ∃ q : Nat, q ≤ 8 ∧ i = .int .i64 q ∧ r = .int .u32 (Crc.csn q (k * 16777216) : Nat)) (fun i _ => 8 - (intOf i).toNat)
      case atStart => exact ⟨0, by omega, rfl, by simp [Crc.csn]⟩
      case round =>
        obtain ⟨q, hq, rfl, rfl⟩ := hrel
        by_cases hq8 : q < 8
        · have hs : Crc.csn q (k * 16777216) < 4294967296 := Crc.csn_lt (by omega)
          have ht := Crc.turn_bits _ hs
          go_wp2
          exact ⟨⟨q + 1, by omega, by go_num, rfl⟩, by simp [intOf]; omega⟩
        · obtain rfl : q = 8 := by omega
          have hcell : ∃ u, wo.cell? ⟨w.heap.size, k, none⟩ = some u := by
            rw [hblk.cell]
            exact ⟨_, Array.getElem?_eq_getElem (by rw [htab.out.1]; exact hlt)⟩
          obtain ⟨u, hcell⟩ := hcell
          have hfr := hblk.frozen k
          have hset := htab.out.set hlt
          have hb2 := hb.grown (grown_setCell wo w.heap.size k (.int .u32 (Crc.tab k : Nat))) hb.size (fun k hk => by injection hk with hk; omega)
          go_wp2
          exact ⟨⟨k + 1, by omega, by go_num, _, hblk.set_ k _, Lib.hid hset, hb2⟩, by simp [intOf]; omega⟩
    · obtain rfl : k = 256 := by omega
      go_upto_region 11 with fail
      refine wp_region_lit ?_
      refine wpList_load_row rfl 87 (.tmp 0) rfl w.heap.size rfl 87 cs (0, 0) _ hblk Try.underlying87 rfl (by rw [htab.out.1]; exact tab_info) ?_
      refine wpList_store_row rfl 87 (.tmp 0) (.tmp 23) rfl w.heap.size cs rfl rfl 87 cs hblk (by rw [htab.out.1]; exact tab_info) rfl htab.out.one ?_
      rw [setRow_same hblk]
      go_wp2
      refine bodyPost_ret (v := .agg cs) (results_cell_row Try.results67 _ wr w.heap.size 87 cs (0, 0) _ rfl hblk Try.underlying87 rfl (by rw [htab.out.1]; exact tab_info)) rfl ⟨cs, rfl, htab.out, hb⟩
end Go.Proofs.Ytelplpajpfkfiaa
