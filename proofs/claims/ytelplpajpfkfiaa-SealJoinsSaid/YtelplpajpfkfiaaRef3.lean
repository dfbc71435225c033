/- The reference of layer 1: TakeUint, TakeInt, Text, TakeText, Ints, TakeInts, Same: the same answers. Condition: the bytes and ints can be read. -/
import Derived.Test.YtelplpajpfkfiaaRef2
set_option linter.unusedVariables false
namespace Go.Proofs.Ytelplpajpfkfiaa
open Go.RowKit Oct

theorem bytes_oneCell (l : List UInt8) : ∀ u ∈ cells l, u.oneCell' = true := by
  intro u hu
  obtain ⟨_, _, rfl⟩ := List.mem_map.1 hu
  rfl
theorem takeU_le (m : Nat) (l : List UInt8) : (takeU m l).1 ≤ m := cnt_le m l

set_option maxRecDepth 100000 in
theorem rtakeUint_any (A : Option Addr) (l : List UInt8) (n c B : Nat) (hn : n = l.length) (w : World) (hr : Rd w B A (cells l)) (hl : l.length ≤ 4611686018427387904) :
    Calls Try.prog 26 #[.slice A n c] w fun e w' => e = .returned (.tuple #[.int .i64 (takeU maxI l).1, .int .i64 (takeU maxI l).2.1, .int .i64 (takeU maxI l).2.2]) ∧ w = w' := by
  subst hn
  have hle : (takeU maxI l).1 ≤ 9223372036854775807 := takeU_le maxI l
  go_enter Try.func26, Try.ntmps26
  go_wp2_with fail
  refine (rtake_any maxI _ maxI_eq maxI_lt A l c B _ hr hl).mono ?_
  rintro e w1 ⟨rfl, rfl⟩
  go_wp2
  go_ret3
  exact ⟨rfl, rfl⟩

set_option maxRecDepth 100000 in
theorem rtakeInt_any (A : Option Addr) (l : List UInt8) (n c B : Nat) (hn : n = l.length) (w : World) (hr : Rd w B A (cells l)) (hl : l.length ≤ 4611686018427387904) :
    Calls Try.prog 30 #[.slice A n c] w fun e w' => e = .returned (.tuple #[.int .i64 (unfold1 (takeU maxU l).1), .int .i64 (takeU maxU l).2.1, .int .i64 (takeU maxU l).2.2]) ∧ w = w' := by
  subst hn
  have hle : (takeU maxU l).1 ≤ 18446744073709551615 := takeU_le maxU l
  obtain ⟨u, hu⟩ : ∃ u, u = (takeU maxU l).1 := ⟨_, rfl⟩
  have hq : IntKind.u64.wrap ((u : Int) / 2) = (u : Int) / 2 := IntWalk.u64_in _ (by rw [hu]; omega)
  have hw : wrap64 ((u : Int) / 2) = (u : Int) / 2 := IntWalk.wrap64_in _ ⟨by omega, by rw [hu]; omega⟩
  have hu2 : u / 2 ≤ 9223372036854775807 := by rw [hu]; omega
  have HU := Lib.hid hu
  clear hle hu
  by_cases h2 : u % 2 = 1
  · have g1 : ((u : Int) % 2 == 1) = true := by simp; omega
    have hf : unfold1 u = -((u / 2 : Nat) : Int) - 1 := by unfold unfold1; rw [if_neg (by omega)]
    have HF := Lib.hid hf
    clear h2 hf
    go_enter Try.func30, Try.ntmps30
    go_wp2_with fail
    refine (rtake_any maxU _ maxU_eq maxU_lt A l c B _ hr hl).mono ?_
    rintro e w1 ⟨rfl, rfl⟩
    rw [← HU.out]
    go_wp2
    go_ret3
    rw [← HU.out, HF.out]
    exact ⟨rfl, rfl⟩
  · have g1 : ((u : Int) % 2 == 1) = false := by simp; omega
    have hf : unfold1 u = ((u / 2 : Nat) : Int) := by unfold unfold1; rw [if_pos (by omega)]
    have HF := Lib.hid hf
    clear h2 hf
    go_enter Try.func30, Try.ntmps30
    go_wp2_with fail
    refine (rtake_any maxU _ maxU_eq maxU_lt A l c B _ hr hl).mono ?_
    rintro e w1 ⟨rfl, rfl⟩
    rw [← HU.out]
    go_wp2
    go_ret3
    rw [← HU.out, HF.out]
    exact ⟨rfl, rfl⟩

set_option maxRecDepth 100000 in
theorem rtext_long (s : ByteArray) (w : World) (h : 65535 < s.size) (h2 : s.size ≤ 9223372036854775807) :
    Calls Try.prog 34 #[.string s] w fun e w' => e = .returned (.tuple #[.slice none 0 0, .int .i64 2]) ∧ w = w' := by
  go_enter Try.func34, Try.ntmps34
  go_wp2
  go_ret2
  exact ⟨rfl, rfl⟩

set_option maxRecDepth 100000 in
theorem rtext_ok (s : ByteArray) (w : World) (h : s.size ≤ 65535) :
    Calls Try.prog 34 #[.string s] w fun e w' => ∃ v, e = .returned (.tuple #[v, .int .i64 0]) ∧ Bs w' w.heap.size v (enc s.size ++ s.data.toList) ∧ Below w.heap.size w w' := by
  obtain ⟨i0, hi, hz0, hz1, hz2⟩ := info_parts info_u8
  go_enter Try.func34, Try.ntmps34
  go_wp2_with fail
  refine (rcount_any s.size w (by omega)).mono ?_
  rintro e w1 ⟨v, rfl, hown, hb⟩
  have hlen := enc_len s.size (by omega)
  have hown' : w1.ownsRow w.heap.size 5 1 v (enc s.size).length (cells (enc s.size)) := by have := hown; unfold Bs Own at this; rw [cells_length] at this; exact this
  have hsz := hb.size
  go_wp2_with (at_builtin; refine Lib.wpList_append_own_string _ rfl (.tmp 10) (.tmp 11) 22 9 rfl w.heap.size 5 i0 Try.underlying22 Try.underlying9 hi hz0 hz1 hz2 v (enc s.size).length (cells (enc s.size)) rfl hown' s rfl (by unfold maxLen; omega) (by omega) (by omega) ?_)
  intro v' w2 hown2 hg2 _
  have hown3 : Bs w2 w.heap.size v' (enc s.size ++ s.data.toList) := by
    unfold Bs Own
    rw [cells_length, List.length_append, cells_append]
    rw [strCells_eq] at hown2
    exact hown2
  have hb2 : Below w.heap.size w w2 := hb.grown hg2 hsz (fun k hk => (hown.lt k hk).1)
  clear hown2 hg2 hown hown' hb
  go_wp2
  go_ret2
  exact ⟨v', rfl, hown3, hb2⟩

set_option maxRecDepth 100000 in
theorem rints_long (A : Option Addr) (n c : Nat) (w : World) (h : 4096 < n) (h2 : n ≤ 9223372036854775807) :
    Calls Try.prog 38 #[.slice A n c] w fun e w' => e = .returned (.tuple #[.slice none 0 0, .int .i64 2]) ∧ w = w' := by
  go_enter Try.func38, Try.ntmps38
  go_wp2
  go_ret2
  exact ⟨rfl, rfl⟩

set_option maxRecDepth 100000 in
theorem rints_ok (A : Option Addr) (z : List Int) (c : Nat) (w : World) (hr : Rd w w.heap.size A (z.map (Value.int .i64))) (hz : ∀ n ∈ z, -9223372036854775808 ≤ n ∧ n ≤ 9223372036854775807) (h : z.length ≤ 4096) :
    Calls Try.prog 38 #[.slice A z.length c] w fun e w' => ∃ v, e = .returned (.tuple #[v, .int .i64 0]) ∧ Bs w' w.heap.size v (enc z.length ++ encs z) ∧ Below w.heap.size w w' := by
  have HZ := Lib.hid hz
  clear hz
  go_enter Try.func38, Try.ntmps38
  go_wp2_with fail
  refine (rcount_any z.length w (by omega)).mono ?_
  rintro e w1 ⟨v, rfl, hown, hb⟩
  have hlen := enc_len z.length (by omega)
  go_wp2_with fail
  go_loopw [4, 5] (fun v i wr => ∃ k : Nat, k ≤ z.length ∧ i = .int .i64 k ∧ Bs wr w.heap.size v (enc z.length ++ encs (z.take k)) ∧ Below w.heap.size w wr) (fun _ i _ => z.length - (intOf i).toNat)
  case atStart => exact ⟨0, by omega, rfl, by simpa [encs] using hown, hb⟩
  case round =>
    clear hown hb
    obtain ⟨k, hk, rfl, hown, hb⟩ := hrel
    by_cases hlt : k < z.length
    · obtain ⟨ad, rfl, hbk, hcell⟩ := rd_at hr hlt
      have hcw : wr.cell? (ad.add k) = some (.int .i64 z[k]) := (hb.cell (by rw [block_of_add]; exact hbk)).trans hcell
      have hzk := HZ.out z[k] (List.getElem_mem hlt)
      have HB := Lib.hid hzk
      have hts : z.take (k + 1) = z.take k ++ [z[k]] := by rw [List.take_succ_eq_append_getElem hlt]
      have HT := Lib.hid hts
      have hel := encs_len (z.take k) (fun n hn => HZ.out n (List.mem_of_mem_take hn))
      rw [List.length_take] at hel
      have hsz := hb.size
      have hfl := enc_len _ (fold1_lt _ hzk)
      clear hzk hts hcell
      generalize z[k] = x at *
      go_wp2_with fail
      refine (rint_any x HB.out _).mono ?_
      rintro e w2 ⟨v2, rfl, hown2, hb2⟩
      obtain ⟨A2, c2, rfl, hc2, hm2, hr2⟩ := bs_shape hown2
      have hown1 := hown.below hb2 (Nat.le_refl _)
      have hb3 := hb.trans (hb2.mono hsz)
      have hsz2 := hb3.size
      have hsz3 := hb2.size
      clear hown hb hb2
      go_wp2_with (at_builtin; refine wpList_append_any rfl (.tmp 19) (.tmp 24) 22 rfl w.heap.size 5 (.int .u8 0) 1 Try.underlying22 info_u8 rfl _ _ rfl hown1 w2.heap.size A2 (enc (fold1 x)).length c2 _ rfl (cells_length _).symm hr2 (bytes_oneCell _) (by rw [cells_length]; unfold maxLen; simp; omega) (by rw [cells_length]; simp; omega) (by omega) ?_)
      intro v' w3 hown3 hg3 hf3
      have hb4 : Below w.heap.size w w3 := hb3.grown hg3 hsz2 (fun k hk => (hown1.lt k hk).1)
      have hown4 : Bs w3 w.heap.size v' (enc z.length ++ encs (z.take (k + 1))) := by
        rw [HT.out, encs_snoc, ← List.append_assoc]
        unfold Bs
        rw [cells_append _ (enc _)]
        exact hown3
      clear hown1 hb3 hown3 hg3 hf3 hr2 hown2
      go_wp2
      go_roundw
      case rel => exact ⟨k + 1, by omega, by go_num, hown4, hb4⟩
      case measure => simp [intOf]; omega
    · have hkl : z.take k = z := List.take_of_length_le (by omega)
      rw [hkl] at hown
      go_wp2
      go_ret2
      exact ⟨_, rfl, hown, hb⟩
end Go.Proofs.Ytelplpajpfkfiaa
