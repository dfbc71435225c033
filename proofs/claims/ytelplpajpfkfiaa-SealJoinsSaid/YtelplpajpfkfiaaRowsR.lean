/- The reference of layer 2: Rows. Condition: the bytes can be read, at most 2^40. -/
import Derived.Test.YtelplpajpfkfiaaRowsW
set_option linter.unusedVariables false
namespace Go.Proofs.Ytelplpajpfkfiaa
open Go.RowKit Oct

set_option maxHeartbeats 2000000 in
set_option maxRecDepth 100000 in
theorem rrows_any (A : Option Addr) (l : List UInt8) (n c : Nat) (hn : n = l.length) (w : World) (hr : Rd w w.heap.size A (cells l)) (hlc : l.length ≤ c) (hl : l.length ≤ 1099511627776 ∧ c ≤ 9223372036854775807) :
    Calls Try.prog 47 #[.slice A n c] w fun e w' => ∃ v xs, e = .returned (.tuple #[v, .int .i64 (rowsS l).2.1, .int .i64 (rowsS l).2.2]) ∧ GotRows w' w.heap.size v xs (rowsS l).1 ∧ Below w.heap.size w w' := by
  subst hn
  obtain ⟨hl1, hl2⟩ := hl
  go_enter Try.func47, Try.ntmps47
  go_wp2_with fail
  go_loopw [5, 6, 7, 8, 9] (fun v at_ _ _ _ wr => ∃ (a : Nat) (acc : List (List UInt8)) (xs : List Value), a ≤ l.length ∧ at_ = .int .i64 a ∧ acc.length ≤ a ∧ RowsAt l a acc ∧ GotRows wr w.heap.size v xs acc ∧ Below w.heap.size w wr) (fun _ i _ _ _ _ => l.length - (intOf i).toNat)
  case atStart => exact ⟨0, [], [], by omega, rfl, by simp, RowsAt.start l, GotRows.nil _ _, Below.refl _ _⟩
  case round =>
    obtain ⟨a, acc, xs, ha, rfl, hacc, hat, hgot, hb⟩ := hrel
    by_cases hlt : a < l.length
    · have hdl : (l.drop a).length = l.length - a := List.length_drop
      have hcut := fun W : World => run_cut_from (P := Try.prog) Try.underlying22 info_u8 A l.length c a ha (a : Int) rfl W
      have hrd : Rd wr wr.heap.size (cutA A a c) (cells (l.drop a)) := by
        have := (Rd.cutA hr (k := a) (cap := c) (by rw [cells_length]; omega) (by rw [cells_length]; exact hlc)).below hb
        exact (by simpa [cells, List.map_drop] using this : Rd wr w.heap.size (cutA A a c) (cells (l.drop a))).more hb.size
      have hltI : (a : Int) < l.length := by omega
      have HDL := Lib.hid hdl.symm
      have HAT := Lib.hid hat
      have hlen := hgot.len
      have HLEN := Lib.hid hlen
      have HG := Lib.hid hgot
      obtain ⟨d, hd⟩ : ∃ d, d = l.drop a := ⟨_, rfl⟩
      have hd1 : d.length ≤ c - a := by rw [hd, hdl]; omega
      have hd2 : d.length ≤ 140737488351232 := by rw [hd, hdl]; omega
      rw [← hd] at hrd HDL
      have HD := Lib.hid hd
      clear hdl hat hgot hlen hd
      go_wp2_with fail
      refine (ropen_any (cutA A a c) d (l.length - a) (c - a) HDL.out wr hrd hd1 ⟨hd2, by omega⟩).mono ?_
      rintro e w1 ⟨p, rfl, hov, hb1⟩
      obtain ⟨Ap, cp, rfl, _⟩ := bs_shape hov
      have hb01 := hb.trans (hb1.mono hb.size)
      by_cases he : (openS d).2.2 = 0
      · have hform := open_form he
        have hstep : RowsAt l (a + (openS d).2.1) (acc ++ [(openS d).1]) := by
          have h1 := HD.out
          rw [h1] at he ⊢
          exact HAT.out.step hlt he
        have hgp := Got.of_own hov
        have hu1 := hform.2.1
        have hu2 := hform.2.2.1
        have hd3 : d.length = l.length - a := HDL.out.symm
        have hxs : xs.length ≤ a := by rw [HLEN.out]; exact hacc
        rw [he]
        have HST := Lib.hid hstep
        have HGP := Lib.hid hgp
        generalize (openS d).2.1 = U at hu1 hu2 HST ⊢
        have hU : a + U ≤ l.length := by omega
        clear hrd hform hstep hgp hov hd3 he HDL
        have hvo := HG.out.own
        have hvo1 := hvo.below hb1 (Nat.le_refl _)
        go_wp2_with (at_builtin; refine wpList_push2 (w := w1) rfl (.tmp 27) (.tmp 29) 34 rfl w.heap.size 22 (.slice none 0 0) 24 Try.underlying34 info_bytes rfl u5 xs _ rfl rfl hvo1 rfl rfl (by omega) (by omega) hb01.size ?_; intro v2 w2 hov2 hg2 hf2)
        have hb02 : Below w.heap.size w w2 := hb01.grown hg2 hb01.size (fun k hk => (hvo1.lt k hk).1)
        have hgr := HG.out.push hb1 HGP.out hb.size hov2 hg2 hf2
        clear hov2 hg2 hf2 hvo hvo1 hb1 hb01
        go_wp2
        go_roundw
        case rel => exact ⟨a + U, _, _, hU, by go_num, by simp; omega, HST.out, hgr, hb02⟩
        case measure => simp [intOf]; omega
      · have hfin : rowsS l = (acc, a, (openS d).2.2) := by
          have h1 := HD.out
          rw [h1] at he ⊢
          exact HAT.out.bad hlt he
        have h1 : ((openS d).2.2 != 0) = true := by simpa using he
        have HF := Lib.hid hfin
        have hg1 := HG.out.below hb1 (Nat.le_refl _)
        clear hrd he hfin hov
        go_wp2
        go_ret3
        rw [HF.out]
        exact ⟨_, _, rfl, hg1, hb01⟩
    · obtain rfl : a = l.length := by omega
      have HF := Lib.hid (hat.done (Nat.le_refl _))
      clear hat
      go_wp2
      go_ret3
      rw [HF.out]
      exact ⟨_, _, rfl, hgot, hb⟩
end Go.Proofs.Ytelplpajpfkfiaa
