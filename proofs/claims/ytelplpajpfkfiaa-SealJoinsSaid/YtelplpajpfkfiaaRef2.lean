/- The reference of layer 1: take, TakeUint, TakeInt: the same answers. Condition: the bytes can be read. -/
import Derived.Test.YtelplpajpfkfiaaRef
set_option linter.unusedVariables false
namespace Go.Proofs.Ytelplpajpfkfiaa
open Go.RowKit Oct

section
variable {m i k d c g : Nat} {x : UInt8} {l : List UInt8} {w : World}
theorem rbad_end (hh : Hid (cnt m l = tkc m (i == 0) k i (l.drop i))) (hd : l.drop i = x :: l.drop (i + 1)) (hb : bad m i k x = true) :
    Ending.returned (.tuple #[.int .u64 0, .int .i64 0, .int .i64 4]) = .returned (.tuple #[.int .u64 (takeU m l).1, .int .i64 (takeU m l).2.1, .int .i64 (takeU m l).2.2]) ∧ w = w := by
  unfold takeU
  rw [hh.out, hd, tkc_cons, if_pos hb]
  exact ⟨rfl, rfl⟩
theorem rgood_end (hh : Hid (cnt m l = tkc m (i == 0) k i (l.drop i))) (hd : l.drop i = x :: l.drop (i + 1)) (hb : bad m i k x = false) (hx : x.toNat < 128) :
    Ending.returned (.tuple #[.int .u64 ((k : Int) * 128 + (x.toNat : Int) % 128), .int .i64 ((i : Int) + 1), .int .i64 0]) = .returned (.tuple #[.int .u64 (takeU m l).1, .int .i64 (takeU m l).2.1, .int .i64 (takeU m l).2.2]) ∧ w = w := by
  unfold takeU
  rw [hh.out, hd, tkc_cons, if_neg (by rw [hb]; exact Bool.false_ne_true), if_pos hx]
  exact ⟨ret3 (by congr 1) rfl rfl, rfl⟩
theorem rgood_round (hh : Hid (cnt m l = tkc m (i == 0) k i (l.drop i))) (hd : l.drop i = x :: l.drop (i + 1)) (hb : bad m i k x = false) (hx : ¬ x.toNat < 128) (hlt : i < l.length) :
    ∃ i' k' : Nat, i' ≤ l.length ∧ Value.int .u64 ((k : Int) * 128 + (x.toNat : Int) % 128) = .int .u64 k' ∧ Value.int .i64 ((i : Int) + 1) = .int .i64 i' ∧ k' ≤ m ∧ Hid (cnt m l = tkc m (i' == 0) k' i' (l.drop i')) := by
  refine ⟨i + 1, k * 128 + x.toNat % 128, by omega, by congr 1, rfl, bad_le hb, ?_⟩
  show cnt m l = _
  rw [hh.out, hd, tkc_cons, if_neg (by rw [hb]; exact Bool.false_ne_true), if_neg hx]
end

set_option maxHeartbeats 1000000 in
set_option maxRecDepth 100000 in
theorem rtake_any (m : Nat) (M : Int) (hM : M = (m : Int)) (hm : m < 2 ^ 64) (A : Option Addr) (l : List UInt8) (c B : Nat) (w : World) (hr : Rd w B A (cells l)) (hl : l.length ≤ 4611686018427387904) :
    Calls Try.prog 71 #[.slice A l.length c, .int .u64 M] w fun e w' => e = .returned (.tuple #[.int .u64 (takeU m l).1, .int .i64 (takeU m l).2.1, .int .i64 (takeU m l).2.2]) ∧ w = w' := by
  subst hM
  have Hm := Lib.hid hm
  have hq : IntKind.u64.wrap ((m : Int) / 128) = (m : Int) / 128 := IntWalk.u64_in _ (by omega)
  clear hm
  have hid0 : Hid (cnt m l = tkc m ((0 : Nat) == 0) 0 0 (l.drop 0)) := Lib.hid rfl
  go_enter Try.func71, Try.ntmps71
  go_wp2_with fail
  go_loop [7, 8, 9] (fun n j y => ∃ i k : Nat, i ≤ l.length ∧ n = .int .u64 k ∧ j = .int .i64 i ∧ k ≤ m ∧ Hid (cnt m l = tkc m (i == 0) k i (l.drop i))) (fun _ j _ => l.length - (intOf j).toNat)
  case atStart => exact ⟨0, 0, by omega, rfl, rfl, by omega, hid0⟩
  case round =>
    obtain ⟨i, k, hi, rfl, rfl, hk, hh⟩ := hrel
    by_cases hlt : i < l.length
    · obtain ⟨ad, rfl, hbk, hcell⟩ := rd_at hr hlt
      obtain ⟨x, hx⟩ : ∃ x, x = l[i] := ⟨_, rfl⟩
      have hdrop : l.drop i = x :: l.drop (i + 1) := by rw [hx]; exact List.drop_eq_getElem_cons hlt
      rw [← hx] at hcell
      have hxl := x.toNat_lt
      clear hx
      have HD := Lib.hid hdrop
      rcases Nat.eq_zero_or_pos i with hi0 | hi0
      · subst hi0
        have HI : Hid ((0 : Nat) = 0) := Lib.hid rfl
        have hcell0 : w.cell? ad = some (.int .u8 (x.toNat : Int)) := hcell
        by_cases hx8 : x.toNat = 128
        · have g3 : ((x.toNat : Int) == 128) = true := by simp; omega
          have HB := Lib.hid (bad_x m k rfl hx8)
          clear hx8
          go_wp2
          go_ret3
          exact rbad_end hh hdrop HB.out
        · have g3 : ((x.toNat : Int) == 128) = false := by simp; omega
          have HX := Lib.hid hx8
          clear hx8
          rcases Nat.lt_trichotomy (m / 128) k with hk1 | hk1 | hk1
          · have e1 : ¬ ((k : Int) ≤ (m : Int) / 128) := by omega
            have e2 : (m : Int) / 128 < k := by omega
            have HB := Lib.hid (bad_k 0 x hk1)
            go_wp2
            go_ret3
            exact rbad_end hh hdrop HB.out
          · rcases Nat.lt_or_ge (m % 128) (x.toNat % 128) with hd1 | hd1
            · have e1 : ¬ ((x.toNat : Int) % 128 ≤ (m : Int) % 128) := by omega
              have e2 : (m : Int) % 128 < (x.toNat : Int) % 128 := by omega
              have HB := Lib.hid (bad_d 0 hk1 hd1)
              subst hk1
              go_wp2
              go_ret3
              exact rbad_end hh hdrop HB.out
            · have e1 : (x.toNat : Int) % 128 ≤ (m : Int) % 128 := by omega
              have e2 : ¬ (m : Int) % 128 < (x.toNat : Int) % 128 := by omega
              have HB := Lib.hid (bad_no (m := m) (i := 0) (k := k) (x := x) (by have := HI.out; have := HX.out; omega) (by omega) (by intro _; exact hd1))
              subst hk1
              have hkk : m / 128 ≤ 144115188075855871 := by have := Hm.out; omega
              by_cases hx128 : x.toNat < 128
              · go_wp2
                go_ret3
                exact rgood_end hh hdrop HB.out hx128
              · go_wp2
                go_round
                case rel => exact rgood_round hh hdrop HB.out hx128 hlt
                case measure => simp [intOf]; omega
          · have e1 : ((k : Int) ≤ (m : Int) / 128) := by omega
            have e2 : ¬ (m : Int) / 128 < k := by omega
            have e3 : ¬ ((k : Int) = (m : Int) / 128) := by omega
            have e4 : ((k : Int) == (m : Int) / 128) = false := by simp; omega
            have HB := Lib.hid (bad_no (m := m) (i := 0) (k := k) (x := x) (by have := HI.out; have := HX.out; omega) (by omega) (by omega))
            have hkk : k ≤ 144115188075855871 := by have := Hm.out; omega
            by_cases hx128 : x.toNat < 128
            · go_wp2
              go_ret3
              exact rgood_end hh hdrop HB.out hx128
            · go_wp2
              go_round
              case rel => exact rgood_round hh hdrop HB.out hx128 hlt
              case measure => simp [intOf]; omega
      · have g1 : ((i : Int) == 0) = false := by simp; omega
        have HI := Lib.hid hi0
        have HX := HI
        rcases Nat.lt_trichotomy (m / 128) k with hk1 | hk1 | hk1
        · have e1 : ¬ ((k : Int) ≤ (m : Int) / 128) := by omega
          have e2 : (m : Int) / 128 < k := by omega
          have HB := Lib.hid (bad_k i x hk1)
          go_wp2
          go_ret3
          exact rbad_end hh hdrop HB.out
        · rcases Nat.lt_or_ge (m % 128) (x.toNat % 128) with hd1 | hd1
          · have e1 : ¬ ((x.toNat : Int) % 128 ≤ (m : Int) % 128) := by omega
            have e2 : (m : Int) % 128 < (x.toNat : Int) % 128 := by omega
            have HB := Lib.hid (bad_d i hk1 hd1)
            subst hk1
            go_wp2
            go_ret3
            exact rbad_end hh hdrop HB.out
          · have e1 : (x.toNat : Int) % 128 ≤ (m : Int) % 128 := by omega
            have e2 : ¬ (m : Int) % 128 < (x.toNat : Int) % 128 := by omega
            have HB := Lib.hid (bad_no (m := m) (i := i) (k := k) (x := x) (by have := HI.out; have := HX.out; omega) (by omega) (by intro _; exact hd1))
            subst hk1
            have hkk : m / 128 ≤ 144115188075855871 := by have := Hm.out; omega
            by_cases hx128 : x.toNat < 128
            · go_wp2
              go_ret3
              exact rgood_end hh hdrop HB.out hx128
            · go_wp2
              go_round
              case rel => exact rgood_round hh hdrop HB.out hx128 hlt
              case measure => simp [intOf]; omega
        · have e1 : ((k : Int) ≤ (m : Int) / 128) := by omega
          have e2 : ¬ (m : Int) / 128 < k := by omega
          have e3 : ¬ ((k : Int) = (m : Int) / 128) := by omega
          have e4 : ((k : Int) == (m : Int) / 128) = false := by simp; omega
          have HB := Lib.hid (bad_no (m := m) (i := i) (k := k) (x := x) (by have := HI.out; have := HX.out; omega) (by omega) (by omega))
          have hkk : k ≤ 144115188075855871 := by have := Hm.out; omega
          by_cases hx128 : x.toNat < 128
          · go_wp2
            go_ret3
            exact rgood_end hh hdrop HB.out hx128
          · go_wp2
            go_round
            case rel => exact rgood_round hh hdrop HB.out hx128 hlt
            case measure => simp [intOf]; omega
    · have hge : l.drop i = [] := List.drop_eq_nil_of_le (by omega)
      go_wp2
      go_ret3
      unfold takeU
      rw [hh.out, hge]
      exact ⟨rfl, rfl⟩
end Go.Proofs.Ytelplpajpfkfiaa
