/- The reference of layer 2: Close, Open. Condition: the bytes can be read, at most 2^46. -/
import Derived.Test.YtelplpajpfkfiaaFour
import Derived.Test.YtelplpajpfkfiaaSealSpec
set_option linter.unusedVariables false
namespace Go.Proofs.Ytelplpajpfkfiaa
open Go.RowKit Oct

theorem rd_lit (w : World) (e : TypeId) (xs : List Value) : Rd (w.alloc (.cells xs.toArray e)) (w.heap.size + 1) (some ⟨w.heap.size, 0, none⟩) xs := by
  intro _
  refine ⟨_, rfl, by simp, fun j u hu => ?_⟩
  rw [show (⟨w.heap.size, 0, none⟩ : Addr).add j = ⟨w.heap.size, j, none⟩ by simp [Addr.add_lit], World.cell?_alloc_at _ _ _ _ rfl]
  simpa using hu
theorem closeS_eq {p : List UInt8} (h : ¬ 1048576 < p.length) : closeS p = enc p.length ++ p ++ Crc.four (Crc.sum (enc p.length ++ p)) := if_neg h

set_option maxHeartbeats 1000000 in
set_option maxRecDepth 100000 in
theorem rclose_any (A : Option Addr) (p : List UInt8) (n c : Nat) (hn : n = p.length) (w : World) (hr : Rd w w.heap.size A (cells p)) (hl : p.length ≤ 140737488351232) :
    Calls Try.prog 43 #[.slice A n c] w fun e w' => ∃ v, e = .returned (.tuple #[v, .int .i64 (closeE p)]) ∧ Bs w' w.heap.size v (closeS p) ∧ Below w.heap.size w w' := by
  subst hn
  by_cases h0 : 1048576 < p.length
  · have h1 : closeE p = 2 := if_pos h0
    have h2 : closeS p = [] := if_pos h0
    rw [h1, h2]
    clear h1 h2
    go_enter Try.func43, Try.ntmps43
    go_wp2
    go_ret2
    exact ⟨_, rfl, Own.nil _ _ _, Below.refl _ _⟩
  · have h1 : closeE p = 0 := if_neg h0
    have hel := enc_len p.length (by omega)
    have hH := closeS_eq h0
    have hHl : (enc p.length ++ p).length ≤ 1048586 := by rw [List.length_append]; omega
    obtain ⟨H, hHH⟩ : ∃ H, H = enc p.length ++ p := ⟨_, rfl⟩
    rw [← hHH] at hH hHl
    have hs := Crc.sum_lt H
    have HF := Lib.hid (four_cells _ hs)
    have HC := Lib.hid hH
    have HH := Lib.hid hHH
    clear hH hHH
    rw [h1]
    clear h1
    go_enter Try.func43, Try.ntmps43
    go_wp2_with fail
    refine (ruint_pos p.length w (by omega)).mono ?_
    rintro e w1 ⟨v1, rfl, hov1, hb1⟩
    have hsz1 := hb1.size
    go_wp2_with (at_builtin; refine wpList_app1 (W := w) rfl (.tmp 16) (.tmp 17) 22 rfl 5 (.int .u8 0) 1 Try.underlying22 info_u8 rfl v1 (cells (enc p.length)) rfl w.heap.size hb1 (Nat.le_refl _) hov1 w.heap.size A p.length c _ rfl (cells_length _).symm (hr.below hb1) (bytes_one _) (by rw [cells_length]; omega) (by rw [cells_length]; omega) ?_; intro v2 w2 hov2 hb2)
    rw [← cells_append, ← HH.out] at hov2
    have hov2' : Bs w2 w.heap.size v2 H := hov2
    obtain ⟨A2, c2, rfl, hc2, _, hr2⟩ := bs_shape hov2'
    have hsz2 := hb2.size
    clear hov1 hb1
    go_wp2_with fail
    refine (rsum_any A2 H _ c2 _ rfl w2 hr2 (by omega)).mono ?_
    rintro e w3 ⟨rfl, rfl⟩
    generalize Crc.sum H = S at hs HF HC ⊢
    clear hr2
    go_wp2_with (at_builtin; refine wpList_append_any rfl (.tmp 21) (.tmp 33) 22 rfl w.heap.size 5 (.int .u8 0) 1 Try.underlying22 info_u8 rfl _ (cells H) rfl (hov2.alloc _) (w2.heap.size + 1) (some ⟨w2.heap.size, 0, none⟩) 4 4 _ rfl rfl (rd_lit w2 _ _) (by rw [← HF.out]; exact bytes_one _) (by rw [cells_length]; unfold maxLen; omega) (by rw [cells_length]; omega) (by simp; omega) ?_; intro v4 w4 hov4 hg4 hf4)
    rw [← HF.out, ← cells_append, ← HC.out] at hov4
    have hb4 : Below w.heap.size w w4 := (hb2.alloc hsz2 _).grown hg4 (by simp; omega) (fun k hk => (hov2.lt k hk).1)
    clear hg4 hf4 hov2 hov2'
    go_wp2
    go_ret2
    exact ⟨_, rfl, hov4, hb4⟩
end Go.Proofs.Ytelplpajpfkfiaa
