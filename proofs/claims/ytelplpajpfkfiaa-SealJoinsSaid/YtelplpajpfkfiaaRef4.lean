/- The reference of layer 1: TakeText, TakeInts, Same: the same answers. Condition: the bytes and ints can be read. -/
import Derived.Test.YtelplpajpfkfiaaRef3
set_option linter.unusedVariables false
namespace Go.Proofs.Ytelplpajpfkfiaa
open Go.RowKit Oct

theorem takeU_used (m : Nat) (l : List UInt8) : (takeU m l).2.1 ≤ l.length := by
  unfold takeU
  have := cnt_used m l
  show (if (cnt m l).2.2 = 0 then (cnt m l).2.1 else 0) ≤ _
  split <;> omega
theorem lenOf_takeU (m : Nat) (l : List UInt8) : lenOf m l = if (takeU maxI l).2.2 = 0 then (if m < (takeU maxI l).1 then (0, 2) else ((takeU maxI l).1, 0)) else (0, (takeU maxI l).2.2) := rfl
theorem takeT_err {l : List UInt8} (h : (takeU maxI l).2.2 ≠ 0) : takeT l = ([], 0, (takeU maxI l).2.2) := by
  have h1 : lenOf 65535 l = (0, (takeU maxI l).2.2) := by rw [lenOf_takeU, if_neg h]
  unfold takeT
  rw [h1, if_neg h]
theorem takeT_long {l : List UInt8} (h : (takeU maxI l).2.2 = 0) (h2 : 65535 < (takeU maxI l).1) : takeT l = ([], 0, 2) := by
  have h1 : lenOf 65535 l = (0, 2) := by rw [lenOf_takeU, if_pos h, if_pos h2]
  unfold takeT
  rw [h1]
  rfl
theorem takeU_at {m : Nat} {l : List UInt8} (h : (takeU m l).2.2 = 0) : (takeU m l).2.1 = (cnt m l).2.1 := if_pos h
theorem takeT_end {l : List UInt8} (h : (takeU maxI l).2.2 = 0) (h2 : ¬ 65535 < (takeU maxI l).1) (h3 : l.length - (takeU maxI l).2.1 < (takeU maxI l).1) : takeT l = ([], 0, 3) := by
  have h1 : lenOf 65535 l = ((takeU maxI l).1, 0) := by rw [lenOf_takeU, if_pos h, if_neg h2]
  unfold takeT
  rw [h1, if_pos rfl, ← takeU_at h, if_pos h3]
theorem takeT_ok {l : List UInt8} (h : (takeU maxI l).2.2 = 0) (h2 : ¬ 65535 < (takeU maxI l).1) (h3 : ¬ l.length - (takeU maxI l).2.1 < (takeU maxI l).1) :
    takeT l = ((l.drop (takeU maxI l).2.1).take (takeU maxI l).1, (takeU maxI l).2.1 + (takeU maxI l).1, 0) := by
  have h1 : lenOf 65535 l = ((takeU maxI l).1, 0) := by rw [lenOf_takeU, if_pos h, if_neg h2]
  unfold takeT
  rw [h1, if_pos rfl, ← takeU_at h, if_neg h3]

set_option maxHeartbeats 400000 in
set_option maxRecDepth 100000 in
theorem rtakeText_any (A : Option Addr) (l : List UInt8) (c B : Nat) (w : World) (hr : Rd w B A (cells l)) (hlc : l.length ≤ c) (hl : c ≤ 4611686018427387904) :
    Calls Try.prog 35 #[.slice A l.length c] w fun e w' => e = .returned (.tuple #[.string (str (takeT l).1), .int .i64 (takeT l).2.1, .int .i64 (takeT l).2.2]) ∧ w = w' := by
  have hle : (takeU maxI l).1 ≤ 9223372036854775807 := takeU_le maxI l
  have hus := takeU_used maxI l
  by_cases he : (takeU maxI l).2.2 = 0
  · by_cases h2 : 65535 < (takeU maxI l).1
    · rw [takeT_long he h2]
      have he1 : ((takeU maxI l).2.2 != 0) = false := by simpa using he
      clear he
      go_enter Try.func35, Try.ntmps35
      go_wp2_with fail
      refine (rtakeUint_any A l _ c B rfl _ hr (by omega)).mono ?_
      rintro e w1 ⟨rfl, rfl⟩
      go_wp2
      go_ret3
      exact ⟨rfl, rfl⟩
    · by_cases h3 : l.length - (takeU maxI l).2.1 < (takeU maxI l).1
      · rw [takeT_end he h2 h3]
        have he1 : ((takeU maxI l).2.2 != 0) = false := by simpa using he
        clear he
        go_enter Try.func35, Try.ntmps35
        go_wp2_with fail
        refine (rtakeUint_any A l _ c B rfl _ hr (by omega)).mono ?_
        rintro e w1 ⟨rfl, rfl⟩
        go_wp2
        go_ret3
        exact ⟨rfl, rfl⟩
      · rw [takeT_ok he h2 h3]
        have he1 : ((takeU maxI l).2.2 != 0) = false := by simpa using he
        clear he
        have hcut := fun W : World => run_cut (P := Try.prog) Try.underlying22 info_u8 A l.length c (takeU maxI l).2.1 ((takeU maxI l).2.1 + (takeU maxI l).1) (by omega) (by omega) (((takeU maxI l).2.1 : Nat) : Int) (((takeU maxI l).2.1 : Int) + ((takeU maxI l).1 : Int)) rfl (by simp) W
        rw [Nat.add_sub_cancel_left] at hcut
        have hrd : Rd w B (cutA A (takeU maxI l).2.1 c) (cells ((l.drop (takeU maxI l).2.1).take (takeU maxI l).1)) := by
          have := (Rd.cutA hr (k := (takeU maxI l).2.1) (cap := c) (by rw [cells_length]; omega) (by rw [cells_length]; omega)).take (takeU maxI l).1
          simpa [cells, List.map_take, List.map_drop] using this
        have hstr := str_of (c - (takeU maxI l).2.1) hrd
        rw [show ((l.drop (takeU maxI l).2.1).take (takeU maxI l).1).length = (takeU maxI l).1 by simp; omega] at hstr
        have hr0 := Lib.hid hr
        clear hr hrd
        go_enter Try.func35, Try.ntmps35
        go_wp2_with fail
        refine (rtakeUint_any A l _ c B rfl _ hr0.out (by omega)).mono ?_
        rintro e w1 ⟨rfl, rfl⟩
        go_wp2
        go_ret3
        exact ⟨rfl, rfl⟩
  · rw [takeT_err he]
    have he1 : ((takeU maxI l).2.2 != 0) = true := by simpa using he
    clear he
    go_enter Try.func35, Try.ntmps35
    go_wp2_with fail
    refine (rtakeUint_any A l _ c B rfl _ hr (by omega)).mono ?_
    rintro e w1 ⟨rfl, rfl⟩
    go_wp2
    go_ret3
    exact ⟨rfl, rfl⟩

theorem takeZ_err {l : List UInt8} (h : (takeU maxI l).2.2 ≠ 0) : takeZ l = ([], 0, (takeU maxI l).2.2) := by
  have h1 : lenOf 4096 l = (0, (takeU maxI l).2.2) := by rw [lenOf_takeU, if_neg h]
  unfold takeZ
  rw [h1, if_neg h]
theorem takeZ_long {l : List UInt8} (h : (takeU maxI l).2.2 = 0) (h2 : 4096 < (takeU maxI l).1) : takeZ l = ([], 0, 2) := by
  have h1 : lenOf 4096 l = (0, 2) := by rw [lenOf_takeU, if_pos h, if_pos h2]
  unfold takeZ
  rw [h1]
  rfl
theorem takeZ_ok {l : List UInt8} (h : (takeU maxI l).2.2 = 0) (h2 : ¬ 4096 < (takeU maxI l).1) : takeZ l = tz l (takeU maxI l).1 (takeU maxI l).2.1 [] := by
  have h1 : lenOf 4096 l = ((takeU maxI l).1, 0) := by rw [lenOf_takeU, if_pos h, if_neg h2]
  unfold takeZ
  rw [h1, if_pos rfl, ← takeU_at h]

theorem tz_yes {l : List UInt8} {n a : Nat} {acc : List Int} (h : (takeU maxU (l.drop a)).2.2 = 0) : tz l (n + 1) a acc = tz l n (a + (takeU maxU (l.drop a)).2.1) (acc ++ [unfold1 (takeU maxU (l.drop a)).1]) := by
  rw [tz, if_pos (show (cnt maxU (l.drop a)).2.2 = 0 from h), takeU_at h]
  rfl
theorem tz_no {l : List UInt8} {n a : Nat} {acc : List Int} (h : (takeU maxU (l.drop a)).2.2 ≠ 0) : tz l (n + 1) a acc = ([], 0, (takeU maxU (l.drop a)).2.2) := by
  rw [tz, if_neg (show ¬ (cnt maxU (l.drop a)).2.2 = 0 from h)]
  rfl

set_option maxHeartbeats 1000000 in
set_option maxRecDepth 100000 in
theorem rtakeInts_any (A : Option Addr) (l : List UInt8) (c : Nat) (w : World) (hr : Rd w w.heap.size A (cells l)) (hlc : l.length ≤ c) (hl : c ≤ 4611686018427387904) :
    Calls Try.prog 39 #[.slice A l.length c] w fun e w' => ∃ v, e = .returned (.tuple #[v, .int .i64 (takeZ l).2.1, .int .i64 (takeZ l).2.2]) ∧ Is w' w.heap.size v (takeZ l).1 ∧ Below w.heap.size w w' := by
  have hle : (takeU maxI l).1 ≤ 9223372036854775807 := takeU_le maxI l
  have hus := takeU_used maxI l
  by_cases he : (takeU maxI l).2.2 = 0
  · by_cases h2 : 4096 < (takeU maxI l).1
    · rw [takeZ_long he h2]
      have he1 : ((takeU maxI l).2.2 != 0) = false := by simpa using he
      clear he
      go_enter Try.func39, Try.ntmps39
      go_wp2_with fail
      refine (rtakeUint_any A l _ c _ rfl _ hr (by omega)).mono ?_
      rintro e w1 ⟨rfl, rfl⟩
      go_wp2
      go_ret3
      exact ⟨_, rfl, Own.nil _ _ _, Below.refl _ _⟩
    · have HZ := Lib.hid (takeZ_ok he h2)
      have he1 : ((takeU maxI l).2.2 != 0) = false := by simpa using he
      have HE := Lib.hid he
      clear he
      obtain ⟨n, hn⟩ : ∃ n, n = (takeU maxI l).1 := ⟨_, rfl⟩
      obtain ⟨u, hu⟩ : ∃ u, u = (takeU maxI l).2.1 := ⟨_, rfl⟩
      rw [← hn] at h2 hle HZ
      rw [← hu] at hus HZ
      have HN := Lib.hid hn
      have HU := Lib.hid hu
      clear hn hu
      go_enter Try.func39, Try.ntmps39
      go_wp2_with fail
      refine (rtakeUint_any A l _ c _ rfl _ hr (by omega)).mono ?_
      rintro e w1 ⟨rfl, rfl⟩
      rw [← HN.out, ← HU.out]
      go_wp2_with fail
      go_loopw [6, 8, 9, 10, 11, 12] (fun at_ v i y1 y2 y3 wr => ∃ (k a : Nat) (acc : List Int), i = .int .i64 k ∧ at_ = .int .i64 a ∧ k ≤ n ∧ acc.length = k ∧ a ≤ l.length ∧ Is wr w.heap.size v acc ∧ Below w.heap.size w wr ∧ Hid (takeZ l = tz l (n - k) a acc))
        (fun _ _ i _ _ _ _ => n - (intOf i).toNat)
      case atStart => exact ⟨0, u, [], rfl, rfl, by omega, rfl, hus, Own.nil _ _ _, Below.refl _ _, HZ⟩
      case round =>
        clear HZ hus
        obtain ⟨k, a, acc, rfl, rfl, hk, hacc, ha, hown, hb, hz⟩ := hrel
        have hsz := hb.size
        by_cases hlt : k < n
        · have hacc' : acc.length ≤ 4096 := by omega
          have hcut := fun W : World => run_cut_from (P := Try.prog) Try.underlying22 info_u8 A l.length c a ha (a : Int) rfl W
          have hrd : Rd wr w.heap.size (cutA A a c) (cells (l.drop a)) := by
            have := Rd.cutA (hr.below hb) (k := a) (cap := c) (by rw [cells_length]; omega) (by rw [cells_length]; omega)
            simpa [cells, List.map_drop] using this
          have HA := Lib.hid hacc
          have hus := takeU_used maxU (l.drop a)
          rw [List.length_drop] at hus
          clear hacc
          go_wp2_with fail
          refine (rtakeInt_any _ (l.drop a) _ _ _ (by rw [List.length_drop]) _ hrd (by rw [List.length_drop]; omega)).mono ?_
          rintro e w1 ⟨rfl, rfl⟩
          clear hcut hrd
          by_cases he : (takeU maxU (l.drop a)).2.2 = 0
          · have he1 : ((takeU maxU (l.drop a)).2.2 != 0) = false := by simpa using he
            have hst : takeZ l = tz l (n - (k + 1)) (a + (takeU maxU (l.drop a)).2.1) (acc ++ [unfold1 (takeU maxU (l.drop a)).1]) := by
              rw [hz.out, show n - k = (n - (k + 1)) + 1 by omega, tz_yes he]
            have HS := Lib.hid hst
            have HE := Lib.hid he
            clear he hst
            go_wp2_with (at_builtin; refine wpList_push rfl (.tmp 40) (.tmp 42) 41 rfl w.heap.size 3 (.int .i64 0) 8 Try.underlying41 info_int rfl _ _ _ _ rfl rfl hown rfl rfl (by rw [List.length_map]; omega) (by rw [List.length_map]; omega) (by omega) ?_)
            intro v' w3 hown3 hg3 hf3
            have hb3 : Below w.heap.size w w3 := hb.grown hg3 (by omega) (fun k hk => (hown.lt _ hk).1)
            have hown4 : Is w3 w.heap.size v' (acc ++ [unfold1 (takeU maxU (l.drop a)).1]) := by unfold Is; rw [List.map_append]; exact hown3
            clear hown hb hown3 hg3 hf3
            go_wp2
            go_roundw
            case rel => exact ⟨k + 1, a + (takeU maxU (l.drop a)).2.1, _, by go_num, by go_num, by omega, by have := HA.out; simp; omega, by omega, hown4, hb3, HS⟩
            case measure => simp [intOf]; omega
          · have he1 : ((takeU maxU (l.drop a)).2.2 != 0) = true := by simpa using he
            have hst : takeZ l = ([], 0, (takeU maxU (l.drop a)).2.2) := by
              rw [hz.out, show n - k = (n - (k + 1)) + 1 by omega, tz_no he]
            have HS := Lib.hid hst
            clear he hst
            go_wp2
            go_ret3
            rw [HS.out]
            exact ⟨_, rfl, Own.nil _ _ _, hb⟩
        · have hst : takeZ l = (acc, a, 0) := by rw [hz.out, show n - k = 0 by omega, tz]
          have HS := Lib.hid hst
          clear hst hacc
          go_wp2
          go_ret3
          rw [HS.out]
          exact ⟨_, rfl, hown, hb⟩
  · rw [takeZ_err he]
    have he1 : ((takeU maxI l).2.2 != 0) = true := by simpa using he
    clear he
    go_enter Try.func39, Try.ntmps39
    go_wp2_with fail
    refine (rtakeUint_any A l _ c _ rfl _ hr (by omega)).mono ?_
    rintro e w1 ⟨rfl, rfl⟩
    go_wp2
    go_ret3
    exact ⟨_, rfl, Own.nil _ _ _, Below.refl _ _⟩

/-- Same: are two rows of numbers one? -/
theorem same_any (A B : Option Addr) (x y : List Int) (c d K : Nat) (w : World) (ha : Rd w K A (x.map (Value.int .i64))) (hb : Rd w K B (y.map (Value.int .i64))) (hx : x.length ≤ 4611686018427387904) (hy : y.length ≤ 4611686018427387904) :
    Calls Try.prog 40 #[.slice A x.length c, .slice B y.length d] w fun e w' => e = .returned (.bool (decide (x = y))) ∧ Below w.heap.size w w' := by
  by_cases hl : x.length = y.length
  · have hl2 : ((x.length : Int) != (y.length : Int)) = false := by simp [hl]
    have HL := Lib.hid hl
    clear hl
    go_enter Try.func40, Try.ntmps40
    go_wp2_with fail
    go_loopw [5] (fun i wr => ∃ k : Nat, k ≤ x.length ∧ i = .int .i64 k ∧ Below w.heap.size w wr ∧ wr.heap = w.heap ∧ x.take k = y.take k) (fun i _ => x.length - (intOf i).toNat)
    case atStart => exact ⟨0, by omega, rfl, Below.refl _ _, rfl, by simp⟩
    case round =>
      obtain ⟨k, hk, rfl, hbl, hheap, htk⟩ := hrel
      have HH := Lib.hid hheap
      have HT := Lib.hid htk
      clear hheap htk
      by_cases hlt : k < x.length
      · obtain ⟨ad, rfl, hbk, hcell⟩ := rd_at ha hlt
        have hlt2 : k < y.length := by have := HL.out; omega
        obtain ⟨bd, rfl, hbk2, hcell2⟩ := rd_at hb hlt2
        have h1 : wr.cell? (ad.add k) = some (.int .i64 x[k]) := by rw [← hcell]; simp [World.cell?, HH.out]
        have h2 : wr.cell? (bd.add k) = some (.int .i64 y[k]) := by rw [← hcell2]; simp [World.cell?, HH.out]
        have h3 : (k : Int) < x.length := by omega
        have h4 : (k : Int) < y.length := by omega
        obtain ⟨p, hp⟩ : ∃ p, p = x[k] := ⟨_, rfl⟩
        obtain ⟨q, hq⟩ : ∃ q, q = y[k] := ⟨_, rfl⟩
        rw [← hp] at h1
        rw [← hq] at h2
        have HP := Lib.hid hp
        have HQ := Lib.hid hq
        clear hp hq hcell hcell2
        by_cases hpq : p = q
        · have g1 : (p != q) = false := by simpa using hpq
          have hts : x.take (k + 1) = y.take (k + 1) := by
            rw [List.take_succ_eq_append_getElem hlt, List.take_succ_eq_append_getElem hlt2, HT.out, ← HP.out, ← HQ.out, hpq]
          have hts2 := Lib.hid hts
          clear hpq hts
          go_wp2_with fail
          go_quiet (fail)
          go_wp2
          go_roundw
          case rel => exact ⟨k + 1, by omega, by go_num, below_drewN hbl _, HH.out, hts2.out⟩
          case measure => simp [intOf]; omega
        · have g1 : (p != q) = true := by simpa using hpq
          have hne : decide (x = y) = false := by
            simp only [decide_eq_false_iff_not]
            rintro rfl
            exact hpq (HP.out.trans HQ.out.symm)
          have hne2 := Lib.hid hne
          clear hpq hne
          go_wp2_with fail
          go_quiet (fail)
          go_wp2
          go_ret
          exact ⟨ret_bool hne2.out.symm, below_drewN hbl _⟩
      · have he : decide (x = y) = true := by
          simp only [decide_eq_true_eq]
          have := HT.out
          rw [List.take_of_length_le (by omega), List.take_of_length_le (by have := HL.out; omega)] at this
          exact this
        have HE := Lib.hid he
        clear he
        go_wp2
        go_ret
        exact ⟨ret_bool HE.out.symm, hbl⟩
  · have hl2 : ((x.length : Int) != (y.length : Int)) = true := by simp; omega
    have hne : decide (x = y) = false := by
      simp only [decide_eq_false_iff_not]
      rintro rfl
      exact hl rfl
    have hne2 := Lib.hid hne
    clear hl hne
    go_enter Try.func40, Try.ntmps40
    go_wp2
    go_ret
    exact ⟨ret_bool hne2.out.symm, Below.refl _ _⟩
end Go.Proofs.Ytelplpajpfkfiaa
