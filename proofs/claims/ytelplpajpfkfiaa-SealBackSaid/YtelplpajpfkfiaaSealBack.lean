/- THE STAGE's THEOREM: what was closed is opened: the walk of the statement. No condition. -/
import Derived.Test.YtelplpajpfkfiaaSealL
import Derived.BigQuiet
set_option linter.unusedVariables false
namespace Go.Proofs.Ytelplpajpfkfiaa
open Go.RowKit Oct

set_option maxHeartbeats 4000000 in
set_option maxRecDepth 100000 in
theorem sealBack_walk (w : World) (A : Option Addr) (p : List UInt8) (ca : Nat) (ha : In8 w A p ca) (B : Option Addr) (b : List UInt8) (cb : Nat) (hb : In8 w B b cb) :
    Calls Try.prog 12 #[.slice A p.length ca, .slice B b.length cb] w fun e w' => e = .returned (.bool true) ∧ Below w.heap.size w w' := by
  by_cases h1 : 2097152 < p.length
  · go_enter Try.func12, Try.ntmps12
    go_wp2
    go_ret
    exact ⟨rfl, Below.refl _ _⟩
  by_cases h2 : 2097152 < b.length
  · go_enter Try.func12, Try.ntmps12
    go_wp2
    go_ret
    exact ⟨rfl, Below.refl _ _⟩
  have hcap := ha.cap
  have hcap2 := hb.cap
  have hle1 := ha.le
  have hle2 := hb.le
  go_enter Try.func12, Try.ntmps12
  go_wp2_with fail
  refine (close_any A p _ ca rfl w ha.rd (by omega)).mono ?_
  rintro e w1 ⟨va, rfl, hga, hb1⟩
  obtain ⟨Aa, cva, rfl, hca, hma, hra⟩ := hga.shape
  have hlen : (closeS p).length ≤ 2097180 := by
    rcases closeE_cases p with ⟨_, _, h⟩ | ⟨_, _, _, _, h⟩
    · rw [h]; simp
    · omega
  have HO : Hid ((1048576 < p.length ∧ closeE p = 2) ∨ (p.length ≤ 1048576 ∧ closeE p = 0 ∧ 5 ≤ (closeS p).length ∧ openS (closeS p ++ b) = (p, (closeS p).length, 0))) := Lib.hid (by
    rcases closeE_cases p with ⟨h, h', _⟩ | ⟨h, h', h3, h4, _⟩
    · exact .inl ⟨h, h'⟩
    · exact .inr ⟨h, h', by omega, by rw [h3]; exact open_piece p b h⟩)
  obtain ⟨Q, hQ⟩ : ∃ Q, Q = closeS p := ⟨_, rfl⟩
  obtain ⟨X, hX⟩ : ∃ X, X = closeS p ++ b := ⟨_, rfl⟩
  rw [← hX] at HO
  have HX := Lib.hid hX
  rw [← hQ] at hra hlen hca hga HO HX ⊢
  have hXl : X.length ≤ 4294967296 := by rw [HX.out, List.length_append]; omega
  clear hQ hX
  go_wp2_with (first | (at_builtin; refine wpList_app0 rfl (.tmp 29) (.tmp 30) 22 rfl 5 (.int .u8 0) 1 Try.underlying22 info_u8 rfl rfl Aa Q.length cva _ rfl (cells_length _).symm hra (bytes_one _) (by omega) (by omega) ?_; intro v4 w4 hov4 hb4) | (at_builtin; refine wpList_app1 (W := w1) rfl (.tmp 31) (.tmp 32) 22 rfl 5 (.int .u8 0) 1 Try.underlying22 info_u8 rfl v4 (cells Q) rfl w1.heap.size hb4 (Nat.le_refl _) hov4 w.heap.size B b.length cb _ rfl (cells_length _).symm (hb.rd.below (hb1.trans (hb4.mono hb1.size))) (bytes_one _) (by rw [cells_length]; omega) (by rw [cells_length]; omega) ?_; intro v5 w5 hov5 hb5; rw [← cells_append, ← HX.out] at hov5; obtain ⟨A5, c5, rfl, hc5, hm5, hr5⟩ := bs_shape hov5))
  have hb15 := hb1.trans (hb5.mono hb1.size)
  clear hov4 hb4 hov5 hb5 hb1 hra hga
  go_wp2_with fail
  refine (open_any A5 X _ c5 rfl w5 hr5 hc5 ⟨by omega, by omega⟩).mono ?_
  rintro e w6 ⟨vq, rfl, hov6, hb6⟩
  have hb16 := hb15.trans (hb6.mono hb15.size)
  obtain ⟨A6, c6, rfl, hc6, hm6, hr6⟩ := bs_shape hov6
  have k6 := str_of c6 hr6
  have k7 := str_of ca (ha.rd.below hb16)
  clear hr5 hov6 hb6 hb15
  rcases HO.out with ⟨h3, h4⟩ | ⟨h3, h4, h5, h6⟩
  rotate_left
  rw [h6] at k6 ⊢
  rotate_left
  all_goals
    rw [h4]
    clear h4
    go_wp2_with fail
    refine (open_any B b _ cb rfl w6 ((hb.rd.below hb16).more hb16.size) hle2 ⟨by omega, by omega⟩).mono ?_
    rintro e w7 ⟨vr, rfl, hov7, hb7⟩
    have hb17 := hb16.trans (hb7.mono hb16.size)
    clear k6 k7 hr6 hb16
    by_cases he : (openS b).2.2 = 0
    · obtain ⟨f1, f2, f3, f4⟩ := open_form he
      obtain ⟨Ar, cr, rfl, hcr, hmr, hrr⟩ := bs_shape hov7
      have HC : Hid (closeE (openS b).1 = 0 ∧ closeS (openS b).1 = b.take (openS b).2.1) := Lib.hid (by
        rcases closeE_cases (openS b).1 with ⟨h, _, _⟩ | ⟨_, h', h3, _⟩
        · omega
        · exact ⟨h', by rw [h3, f4]⟩)
      rw [he]
      clear he f4 hov7 hb7
      generalize (openS b).1 = R at f1 HC hcr hrr ⊢
      generalize (openS b).2.1 = U at f2 f3 HC ⊢
      go_wp2_with fail
      refine (close_any Ar R _ cr rfl w7 hrr (by omega)).mono ?_
      rintro e w8 ⟨vc, rfl, hgc, hb8⟩
      have hb18 := hb17.trans (hb8.mono hb17.size)
      rw [HC.out.2] at hgc
      rw [HC.out.1]
      obtain ⟨Ac, cc, rfl, hcc, hmc, hrc⟩ := hgc.shape
      have hrU : Rd w8 w8.heap.size B (cells (b.take U)) := by
        have := ((hb.rd.below hb18).more hb18.size).take U
        simpa [cells, List.map_take] using this
      have hcut := fun W : World => run_cut_to (P := Try.prog) Try.underlying22 info_u8 B b.length cb U (by omega) (U : Int) rfl W
      have htk : (b.take U).length = U := by rw [List.length_take]; omega
      have q1 := fun nq : Nat => str_of cc (hrc.drewN nq)
      have q2 := fun nq : Nat => str_of cb (hrU.drewN nq)
      rw [htk] at q1 q2 ⊢
      generalize b.take U = T at q1 q2 htk
      clear hrc hrU hgc hrr hb8 hb17 htk HC
      have d1 : decide ((5 : Int) ≤ (U : Int)) = true := by simp; omega
      have d2 : decide (U ≤ b.length) = true := by simp; omega
      have d3 : decide ((U : Int) ≤ (b.length : Int)) = true := by simp; omega
      clear f2 f3
      go_wp2_with fail
      go_quiet (fail)
      go_wp2
      go_ret
      exact ⟨rfl, below_drewN hb18 _⟩
    · have hd : ((openS b).2.2 != 0) = true := by simpa using he
      clear hov7
      go_wp2
      go_ret
      exact ⟨rfl, hb17⟩
end Go.Proofs.Ytelplpajpfkfiaa
