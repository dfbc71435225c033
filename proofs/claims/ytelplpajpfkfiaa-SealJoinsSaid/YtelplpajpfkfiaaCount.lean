/- octet's taker takes a count: it computes tkc. Condition: the place lies in one block, the bytes below it. -/
import Derived.Test.YtelplpajpfkfiaaTaker
import Derived.Test.YtelplpajpfkfiaaQTail
set_option linter.unusedVariables false
namespace Go.Proofs.Ytelplpajpfkfiaa
open Go.RowKit Oct

theorem andNot_byte (x : UInt8) : bits .andNot .u8 (x.toNat : Int) 128 = ((x.toNat % 128 : Nat) : Int) := by
  have h := andNot_digit x.toNat
  have hx := x.toNat_lt
  rw [show ((x.toNat : Int) % 256) = x.toNat by omega] at h
  rw [h, low7, toNat_ofNat8 _ (by omega)]
theorem and127 (m : Nat) (hm : m < 2 ^ 64) : bits .and .u64 (m : Int) 127 = ((m % 128 : Nat) : Int) := by
  have := u64_and_nat m 127 (by omega) (by omega)
  rw [show ((127 : Nat) : Int) = 127 from rfl] at this
  rw [this]
  congr 1
  rw [show (127 : Nat) = 2 ^ 7 - 1 from rfl, Nat.and_two_pow_sub_one_eq_mod]
theorem or_join (k d : Nat) (hk : k < 2 ^ 57) (hd : d < 128) : bits .or .u64 ((k : Int) * 128) (d : Int) = ((k * 128 + d : Nat) : Int) := by
  have := u64_or_nat (k * 128) d (by omega) (by omega)
  rw [show ((k * 128 : Nat) : Int) = (k : Int) * 128 by simp] at this
  rw [this]
  congr 1
  have h2 := Nat.two_pow_add_eq_or_of_lt (i := 7) hd k
  rw [show (2 : Nat) ^ 7 = 128 from rfl] at h2
  rw [Nat.mul_comm k 128, ← h2]

/-- What the test in count's round asks: is the byte x no form? -/
def bad (m i k : Nat) (x : UInt8) : Bool := ((i == 0) && x == 128) || decide (m / 128 < k) || (decide (k = m / 128) && decide (m % 128 < x.toNat % 128))
theorem tkc_cons (m i k : Nat) (x : UInt8) (r : List UInt8) : tkc m (i == 0) k i (x :: r) = if bad m i k x then (0, i + 1, 4) else if x.toNat < 128 then (k * 128 + x.toNat % 128, i + 1, 0) else tkc m (i + 1 == 0) (k * 128 + x.toNat % 128) (i + 1) r := by
  rw [tkc]
  rfl

section
variable {a m i k d c g : Nat} {x : UInt8} {l : List UInt8} {w w3 : World} {s : Value}
theorem bad_x (m k : Nat) (hi : i = 0) (hx : x.toNat = 128) : bad m i k x = true := by
  have : x = 128 := UInt8.toNat_inj.1 hx
  subst this; subst hi
  simp [bad]
theorem bad_k (i : Nat) (x : UInt8) (h : m / 128 < k) : bad m i k x = true := by simp [bad, h]
theorem bad_d (i : Nat) (h : m / 128 = k) (hd : m % 128 < x.toNat % 128) : bad m i k x = true := by simp [bad, h, hd]
theorem bad_no (h1 : i ≠ 0 ∨ x.toNat ≠ 128) (h2 : k ≤ m / 128) (h3 : m / 128 = k → x.toNat % 128 ≤ m % 128) : bad m i k x = false := by
  have hx : i = 0 → ¬ x = 128 := by
    rintro hi rfl
    rcases h1 with h1 | h1
    · exact h1 hi
    · exact h1 rfl
  simp only [bad, Bool.or_eq_false_iff, Bool.and_eq_false_iff, decide_eq_false_iff_not, beq_eq_false_iff_ne]
  refine ⟨⟨?_, by omega⟩, ?_⟩
  · by_cases hi : i = 0
    · exact .inr (hx hi)
    · exact .inl hi
  · by_cases hk : k = m / 128
    · have := h3 hk.symm; exact .inr (by omega)
    · exact .inl hk
theorem bad_le (h : bad m i k x = false) : k * 128 + x.toNat % 128 ≤ m := by
  simp only [bad, Bool.or_eq_false_iff, Bool.and_eq_false_iff, decide_eq_false_iff_not] at h
  omega
theorem bad_end (hh : Hid (tkc m true 0 0 (l.drop a) = tkc m (i == 0) k i (l.drop (a + i)))) (hd : l.drop (a + i) = x :: l.drop (a + i + 1)) (hb : bad m i k x = true)
    (ht : Tk w3 g (a + i + 1 : Nat) 4 s) (hg : w.grownBy w3 (some g)) :
    Ending.returned (.int .u64 0) = .returned (.int .u64 (tkc m true 0 0 (l.drop a)).1) ∧ Tk w3 g (a + (tkc m true 0 0 (l.drop a)).2.1 : Nat) (tkc m true 0 0 (l.drop a)).2.2 s ∧ w.grownBy w3 (some g) := by
  rw [hh.out, hd, tkc_cons, if_pos hb]
  exact ⟨rfl, ht, hg⟩
theorem good_end {X : Int} (hh : Hid (tkc m true 0 0 (l.drop a) = tkc m (i == 0) k i (l.drop (a + i)))) (hd : l.drop (a + i) = x :: l.drop (a + i + 1)) (hb : bad m i k x = false) (hx : x.toNat < 128)
    (hd7 : d = x.toNat % 128) (hX : X = (k * 128 + d : Nat)) (ht : Tk w3 g (a + i + 1 : Nat) 0 s) (hg : w.grownBy w3 (some g)) :
    Ending.returned (.int .u64 X) = .returned (.int .u64 (tkc m true 0 0 (l.drop a)).1) ∧ Tk w3 g (a + (tkc m true 0 0 (l.drop a)).2.1 : Nat) (tkc m true 0 0 (l.drop a)).2.2 s ∧ w.grownBy w3 (some g) := by
  rw [hh.out, hd, tkc_cons, if_neg (by rw [hb]; exact Bool.false_ne_true), if_pos hx]
  exact ⟨by rw [hX, hd7], ht, hg⟩
theorem good_round {X : Int} (hh : Hid (tkc m true 0 0 (l.drop a) = tkc m (i == 0) k i (l.drop (a + i)))) (hd : l.drop (a + i) = x :: l.drop (a + i + 1)) (hb : bad m i k x = false) (hx : ¬ x.toNat < 128)
    (hd7 : d = x.toNat % 128) (hX : X = (k * 128 + d : Nat)) (ht : Tk w3 g (a + i + 1 : Nat) 0 s) (hg : w.grownBy w3 (some g)) (hlt : a + i < l.length) :
    ∃ i' k' : Nat, a + i' ≤ l.length ∧ Value.int .u64 X = .int .u64 k' ∧ k' ≤ m ∧ Tk w3 g (a + i' : Nat) 0 s ∧ w.grownBy w3 (some g) ∧ Hid (tkc m true 0 0 (l.drop a) = tkc m (i' == 0) k' i' (l.drop (a + i'))) := by
  refine ⟨i + 1, k * 128 + d, by omega, by rw [hX], by rw [hd7]; exact bad_le hb, ht, hg, ?_⟩
  show tkc m true 0 0 (l.drop a) = _
  rw [hh.out, hd, tkc_cons, if_neg (by rw [hb]; exact Bool.false_ne_true), if_neg hx, hd7]
  rfl
theorem good_measure {wr : World} (h1 : w3.cell? ⟨g, 0, none⟩ = some (.int .i64 (a + i + 1 : Nat))) (h0 : Hid (wr.cell? ⟨g, 0, none⟩ = some (.int .i64 (a + i : Nat)))) (hlt : a + i < l.length) :
    l.length - (intOf ((w3.cell? ⟨g, 0, none⟩).getD undef)).toNat < l.length - (intOf ((wr.cell? ⟨g, 0, none⟩).getD undef)).toNat := by
  rw [h1, h0.out]
  simp [intOf]
  omega
end

set_option maxHeartbeats 2000000 in
set_option maxRecDepth 100000 in
theorem count_any (g : Nat) (a m : Nat) (A : Option Addr) (l : List UInt8) (c : Nat) (w : World) (h : Tk w g a 0 (.slice A l.length c)) (hm : m < 2 ^ 64) (ha : a ≤ l.length) (hl : l.length ≤ 4611686018427387904)
    (hr : Rd w g A (cells l)) :
    Calls Try.prog 68 #[.pointer (some ⟨g, 0, none⟩), .int .u64 m] w fun e' w' => e' = .returned (.int .u64 (tkc m true 0 0 (l.drop a)).1) ∧
      Tk w' g (a + (tkc m true 0 0 (l.drop a)).2.1 : Nat) (tkc m true 0 0 (l.drop a)).2.2 (.slice A l.length c) ∧ w.grownBy w' (some g) := by
  have Hm := Lib.hid hm
  clear hm
  have htk0 : Tk w g (a + 0 : Nat) 0 (.slice A l.length c) := h
  have hid0 : Hid (tkc m true 0 0 (l.drop a) = tkc m ((0 : Nat) == 0) 0 0 (l.drop (a + 0))) := Lib.hid rfl
  obtain ⟨h0, h1, h2, f0, f1⟩ := tk_cells h
  go_enter Try.func68, Try.ntmps68
  go_wp2_with fail
  go_quiet (fail)
  go_wp2_with fail
  go_loopw [5, 7, 8] (fun n x y wr => ∃ i k : Nat, a + i ≤ l.length ∧ n = .int .u64 k ∧ k ≤ m ∧ Tk wr g (a + i : Nat) 0 (.slice A l.length c) ∧ w.grownBy wr (some g) ∧ Hid (tkc m true 0 0 (l.drop a) = tkc m (i == 0) k i (l.drop (a + i)))) (fun _ _ _ wr => l.length - (intOf ((wr.cell? ⟨g, 0, none⟩).getD undef)).toNat)
  case atStart => exact ⟨0, 0, by omega, rfl, by omega, htk0, grown_drewN (World.grownBy.refl _ _) _, hid0⟩
  case round =>
    obtain ⟨i, k, hi, rfl, hk, htk, hg, hh⟩ := hrel
    obtain ⟨h0, h1, h2, f0, f1⟩ := tk_cells htk
    by_cases hlt : a + i < l.length
    · obtain ⟨ad, rfl, hbk, hcell⟩ := rd_at hr hlt
      obtain ⟨x, hx⟩ : ∃ x, x = l[a + i] := ⟨_, rfl⟩
      have hdrop : l.drop (a + i) = x :: l.drop (a + i + 1) := by rw [hx]; exact List.drop_eq_getElem_cons hlt
      rw [← hx] at hcell
      have hxl := x.toNat_lt
      clear hx
      have htk' : ∀ n, Tk (wr.drewN n) g (a + i : Nat) 0 (.slice (some ad) l.length c) := fun _ => htk
      obtain ⟨d, hd⟩ : ∃ d, d = x.toNat % 128 := ⟨_, rfl⟩
      have hd7 : d < 128 := by omega
      have hand : bits .andNot .u8 (x.toNat : Int) 128 = (d : Int) := by rw [andNot_byte, hd]
      have hand2 := and127 m Hm.out
      have HD := Lib.hid hd
      clear hd
      go_wp2_with fail
      refine wp_region_quiet_tail 8 (by kernel_rfl) (by kernel_rfl) ?_
      simp only [List.take_succ_cons, List.take_zero, List.drop_succ_cons, List.drop_zero]
      iterate 8 go_big_quiet_step (fail)
      refine wpQuiet_nil ?_
      rintro _ ⟨nt, rfl⟩
      go_wp2_with fail
      refine (on_ok g (a + i : Nat) 1 l.length _ _ (htk' _) (by omega) (by omega) (by omega) (by omega) (by omega) (by omega)).mono ?_
      rintro e w1 ⟨rfl, htk1, hg1⟩
      have hgg := grown_then hg (grown_of_drewN hg1) (.inl rfl)
      obtain ⟨q0, q1, q2, q3, q4⟩ := tk_cells htk1
      have hc1 : w1.cell? (ad.add (a + i)) = some (.int .u8 (x.toNat : Int)) := by
        refine (World.cell?_of_block (w := w) ?_).trans hcell
        rw [block_of_add]
        exact hgg.block ad.block (by have := h.lt; omega) (by simp; omega)
      have h0k0 := Lib.hid h0
      clear h0 h1 h2 f0 f1 htk htk' hg hg1 hcell
      go_wp2_with fail
      go_quiet (fail)
      go_wp2_with fail
      have htk2 : Tk (w1.drewN nq) g (a + i + 1 : Nat) 0 (.slice (some ad) l.length c) := htk1
      have hgg2 : w.grownBy (w1.drewN nq) (some g) := grown_drewN hgg nq
      clear htk1 hgg q0 q1 q2 q3 q4 hc1
      generalize w1.drewN nq = w2 at htk2 hgg2 ⊢
      obtain ⟨q0, q1, q2, q3, q4⟩ := tk_cells htk2
      have h0k := h0k0
      have hw1 : IntKind.i64.wrap ((a : Int) + 1) = a + 1 := IntWalk.i64_in _ (by omega)
      rcases Nat.eq_zero_or_pos i with hi0 | hi0
      · have g1 : ((a : Int) + i + 1 == a + 1) = true := by simp; omega
        have HI := Lib.hid hi0
        by_cases hx8 : x.toNat = 128
        · have g3 : ((x.toNat : Int) == 128) = true := by simp; omega
          have HB := Lib.hid (bad_x m k hi0 hx8)
          clear hi0 hx8
          refine wp_region_quiet_tail 33 (by kernel_rfl) (by kernel_rfl) ?_
          simp only [List.take_succ_cons, List.take_zero, List.drop_succ_cons, List.drop_zero]
          iterate 33 go_big_quiet_step (fail)
          refine wpQuiet_nil ?_
          rintro _ ⟨nt, rfl⟩
          go_wp2_with fail
          refine (wrong_yes g (a + i + 1 : Nat) 4 _ _ (htk2.drewN nt) (by omega)).mono ?_
          rintro e w3 ⟨rfl, htk3, hg3⟩
          go_wp2
          go_ret
          exact bad_end hh hdrop HB.out htk3 (grown_then hgg2 (grown_of_drewN hg3) (.inl rfl))
        · have g3 : ((x.toNat : Int) == 128) = false := by simp; omega
          have HX := Lib.hid hx8
          clear hi0 hx8
          rcases Nat.lt_trichotomy (m / 128) k with hk1 | hk1 | hk1
          · have e1 : ¬ ((k : Int) ≤ (m : Int) / 128) := by omega
            have e2 : (m : Int) / 128 < k := by omega
            have HB := Lib.hid (bad_k i x hk1)
            refine wp_region_quiet_tail 33 (by kernel_rfl) (by kernel_rfl) ?_
            simp only [List.take_succ_cons, List.take_zero, List.drop_succ_cons, List.drop_zero]
            iterate 33 go_big_quiet_step (fail)
            refine wpQuiet_nil ?_
            rintro _ ⟨nt, rfl⟩
            go_wp2_with fail
            refine (wrong_yes g (a + i + 1 : Nat) 4 _ _ (htk2.drewN nt) (by omega)).mono ?_
            rintro e w3 ⟨rfl, htk3, hg3⟩
            go_wp2
            go_ret
            exact bad_end hh hdrop HB.out htk3 (grown_then hgg2 (grown_of_drewN hg3) (.inl rfl))
          · rcases Nat.lt_or_ge (m % 128) d with hd1 | hd1
            · have e1 : ¬ ((d : Int) ≤ (m : Int) % 128) := by omega
              have e2 : (m : Int) % 128 < d := by omega
              have HB := Lib.hid (bad_d i hk1 (by rw [← HD.out]; exact hd1))
              subst hk1
              refine wp_region_quiet_tail 33 (by kernel_rfl) (by kernel_rfl) ?_
              simp only [List.take_succ_cons, List.take_zero, List.drop_succ_cons, List.drop_zero]
              iterate 33 go_big_quiet_step (fail)
              refine wpQuiet_nil ?_
              rintro _ ⟨nt, rfl⟩
              go_wp2_with fail
              refine (wrong_yes g (a + i + 1 : Nat) 4 _ _ (htk2.drewN nt) (by omega)).mono ?_
              rintro e w3 ⟨rfl, htk3, hg3⟩
              go_wp2
              go_ret
              exact bad_end hh hdrop HB.out htk3 (grown_then hgg2 (grown_of_drewN hg3) (.inl rfl))
            · have e1 : (d : Int) ≤ (m : Int) % 128 := by omega
              have e2 : ¬ (m : Int) % 128 < d := by omega
              have HB := Lib.hid (bad_no (m := m) (i := i) (k := k) (x := x) (by have := HI.out; have := HX.out; omega) (by omega) (by intro _; rw [← HD.out]; exact hd1))
              subst hk1
              refine wp_region_quiet_tail 33 (by kernel_rfl) (by kernel_rfl) ?_
              simp only [List.take_succ_cons, List.take_zero, List.drop_succ_cons, List.drop_zero]
              iterate 33 go_big_quiet_step (fail)
              refine wpQuiet_nil ?_
              rintro _ ⟨nt, rfl⟩
              go_wp2_with fail
              refine (wrong_no g (a + i + 1 : Nat) 4 _ _ (htk2.drewN nt)).mono ?_
              rintro e w3 ⟨rfl, rfl⟩
              have HOR := Lib.hid (or_join (m / 128) d (by have := Hm.out; omega) hd7)
              have htk3 : Tk (w2.drewN nt) g (a + i + 1 : Nat) 0 (.slice (some ad) l.length c) := htk2.drewN nt
              have hgg3 := grown_drewN hgg2 nt
              have hkk : m / 128 ≤ 144115188075855871 := by have := Hm.out; omega
              by_cases hx128 : x.toNat < 128
              · go_wp2
                go_ret
                exact good_end hh hdrop HB.out hx128 HD.out HOR.out htk3 hgg3
              · go_wp2
                go_roundw
                case rel => exact good_round hh hdrop HB.out hx128 HD.out HOR.out htk3 hgg3 hlt
                case measure => exact good_measure (htk3.cell 0) h0k hlt
          · have e1 : ((k : Int) ≤ (m : Int) / 128) := by omega
            have e2 : ¬ (m : Int) / 128 < k := by omega
            have e3 : ¬ ((k : Int) = (m : Int) / 128) := by omega
            have e4 : ((k : Int) == (m : Int) / 128) = false := by simp; omega
            have HB := Lib.hid (bad_no (m := m) (i := i) (k := k) (x := x) (by have := HI.out; have := HX.out; omega) (by omega) (by omega))
            refine wp_region_quiet_tail 33 (by kernel_rfl) (by kernel_rfl) ?_
            simp only [List.take_succ_cons, List.take_zero, List.drop_succ_cons, List.drop_zero]
            iterate 33 go_big_quiet_step (fail)
            refine wpQuiet_nil ?_
            rintro _ ⟨nt, rfl⟩
            go_wp2_with fail
            refine (wrong_no g (a + i + 1 : Nat) 4 _ _ (htk2.drewN nt)).mono ?_
            rintro e w3 ⟨rfl, rfl⟩
            have HOR := Lib.hid (or_join k d (by have := Hm.out; omega) hd7)
            have htk3 : Tk (w2.drewN nt) g (a + i + 1 : Nat) 0 (.slice (some ad) l.length c) := htk2.drewN nt
            have hgg3 := grown_drewN hgg2 nt
            have hkk : k ≤ 144115188075855871 := by have := Hm.out; omega
            by_cases hx128 : x.toNat < 128
            · go_wp2
              go_ret
              exact good_end hh hdrop HB.out hx128 HD.out HOR.out htk3 hgg3
            · go_wp2
              go_roundw
              case rel => exact good_round hh hdrop HB.out hx128 HD.out HOR.out htk3 hgg3 hlt
              case measure => exact good_measure (htk3.cell 0) h0k hlt
      · have g1 : ((a : Int) + i + 1 == a + 1) = false := by simp; omega
        have HI := Lib.hid hi0
        have HX := HI
        rcases Nat.lt_trichotomy (m / 128) k with hk1 | hk1 | hk1
        · have e1 : ¬ ((k : Int) ≤ (m : Int) / 128) := by omega
          have e2 : (m : Int) / 128 < k := by omega
          have HB := Lib.hid (bad_k i x hk1)
          refine wp_region_quiet_tail 33 (by kernel_rfl) (by kernel_rfl) ?_
          simp only [List.take_succ_cons, List.take_zero, List.drop_succ_cons, List.drop_zero]
          iterate 33 go_big_quiet_step (fail)
          refine wpQuiet_nil ?_
          rintro _ ⟨nt, rfl⟩
          go_wp2_with fail
          refine (wrong_yes g (a + i + 1 : Nat) 4 _ _ (htk2.drewN nt) (by omega)).mono ?_
          rintro e w3 ⟨rfl, htk3, hg3⟩
          go_wp2
          go_ret
          exact bad_end hh hdrop HB.out htk3 (grown_then hgg2 (grown_of_drewN hg3) (.inl rfl))
        · rcases Nat.lt_or_ge (m % 128) d with hd1 | hd1
          · have e1 : ¬ ((d : Int) ≤ (m : Int) % 128) := by omega
            have e2 : (m : Int) % 128 < d := by omega
            have HB := Lib.hid (bad_d i hk1 (by rw [← HD.out]; exact hd1))
            subst hk1
            refine wp_region_quiet_tail 33 (by kernel_rfl) (by kernel_rfl) ?_
            simp only [List.take_succ_cons, List.take_zero, List.drop_succ_cons, List.drop_zero]
            iterate 33 go_big_quiet_step (fail)
            refine wpQuiet_nil ?_
            rintro _ ⟨nt, rfl⟩
            go_wp2_with fail
            refine (wrong_yes g (a + i + 1 : Nat) 4 _ _ (htk2.drewN nt) (by omega)).mono ?_
            rintro e w3 ⟨rfl, htk3, hg3⟩
            go_wp2
            go_ret
            exact bad_end hh hdrop HB.out htk3 (grown_then hgg2 (grown_of_drewN hg3) (.inl rfl))
          · have e1 : (d : Int) ≤ (m : Int) % 128 := by omega
            have e2 : ¬ (m : Int) % 128 < d := by omega
            have HB := Lib.hid (bad_no (m := m) (i := i) (k := k) (x := x) (by have := HI.out; have := HX.out; omega) (by omega) (by intro _; rw [← HD.out]; exact hd1))
            subst hk1
            refine wp_region_quiet_tail 33 (by kernel_rfl) (by kernel_rfl) ?_
            simp only [List.take_succ_cons, List.take_zero, List.drop_succ_cons, List.drop_zero]
            iterate 33 go_big_quiet_step (fail)
            refine wpQuiet_nil ?_
            rintro _ ⟨nt, rfl⟩
            go_wp2_with fail
            refine (wrong_no g (a + i + 1 : Nat) 4 _ _ (htk2.drewN nt)).mono ?_
            rintro e w3 ⟨rfl, rfl⟩
            have HOR := Lib.hid (or_join (m / 128) d (by have := Hm.out; omega) hd7)
            have htk3 : Tk (w2.drewN nt) g (a + i + 1 : Nat) 0 (.slice (some ad) l.length c) := htk2.drewN nt
            have hgg3 := grown_drewN hgg2 nt
            have hkk : m / 128 ≤ 144115188075855871 := by have := Hm.out; omega
            by_cases hx128 : x.toNat < 128
            · go_wp2
              go_ret
              exact good_end hh hdrop HB.out hx128 HD.out HOR.out htk3 hgg3
            · go_wp2
              go_roundw
              case rel => exact good_round hh hdrop HB.out hx128 HD.out HOR.out htk3 hgg3 hlt
              case measure => exact good_measure (htk3.cell 0) h0k hlt
        · have e1 : ((k : Int) ≤ (m : Int) / 128) := by omega
          have e2 : ¬ (m : Int) / 128 < k := by omega
          have e3 : ¬ ((k : Int) = (m : Int) / 128) := by omega
          have e4 : ((k : Int) == (m : Int) / 128) = false := by simp; omega
          have HB := Lib.hid (bad_no (m := m) (i := i) (k := k) (x := x) (by have := HI.out; have := HX.out; omega) (by omega) (by omega))
          refine wp_region_quiet_tail 33 (by kernel_rfl) (by kernel_rfl) ?_
          simp only [List.take_succ_cons, List.take_zero, List.drop_succ_cons, List.drop_zero]
          iterate 33 go_big_quiet_step (fail)
          refine wpQuiet_nil ?_
          rintro _ ⟨nt, rfl⟩
          go_wp2_with fail
          refine (wrong_no g (a + i + 1 : Nat) 4 _ _ (htk2.drewN nt)).mono ?_
          rintro e w3 ⟨rfl, rfl⟩
          have HOR := Lib.hid (or_join k d (by have := Hm.out; omega) hd7)
          have htk3 : Tk (w2.drewN nt) g (a + i + 1 : Nat) 0 (.slice (some ad) l.length c) := htk2.drewN nt
          have hgg3 := grown_drewN hgg2 nt
          have hkk : k ≤ 144115188075855871 := by have := Hm.out; omega
          by_cases hx128 : x.toNat < 128
          · go_wp2
            go_ret
            exact good_end hh hdrop HB.out hx128 HD.out HOR.out htk3 hgg3
          · go_wp2
            go_roundw
            case rel => exact good_round hh hdrop HB.out hx128 HD.out HOR.out htk3 hgg3 hlt
            case measure => exact good_measure (htk3.cell 0) h0k hlt
    · have hge : l.length ≤ a + i := by omega
      have htk' : ∀ n, Tk (wr.drewN n) g (a + i : Nat) 0 (.slice A l.length c) := fun _ => htk
      go_wp2_with fail
      refine wp_region_quiet_tail 8 (by kernel_rfl) (by kernel_rfl) ?_
      simp only [List.take_succ_cons, List.take_zero, List.drop_succ_cons, List.drop_zero]
      iterate 8 go_big_quiet_step (fail)
      refine wpQuiet_nil ?_
      rintro _ ⟨nt, rfl⟩
      go_wp2_with fail
      refine (on_end g (a + i : Nat) 1 l.length _ _ (htk' _) (by omega) (by omega) (by omega)).mono ?_
      rintro e w1 ⟨rfl, htk1, hg1⟩
      go_wp2
      go_ret
      have hd : l.drop (a + i) = [] := List.drop_eq_nil_of_le hge
      rw [hh.out, hd]
      exact ⟨rfl, htk1, grown_then hg (grown_of_drewN hg1) (.inl rfl)⟩
end Go.Proofs.Ytelplpajpfkfiaa
