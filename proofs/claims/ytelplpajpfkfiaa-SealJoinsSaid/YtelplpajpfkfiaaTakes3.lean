/- octet's TakeInts. Condition: the bytes are read below the heap's end, at most 2^47. -/
import Derived.Test.YtelplpajpfkfiaaTakes2
set_option linter.unusedVariables false
namespace Go.Proofs.Ytelplpajpfkfiaa
open Go.RowKit Oct

theorem info_int : (Try.prog.info? 3).map (fun i => (i.zero, i.size, i.bytes)) = some (some (.int .i64 0), 1, 8) := by kernel_rfl
abbrev Is (w : World) (base : Nat) (v : Value) (z : List Int) : Prop := Own w base 3 v (z.map (Value.int .i64))

theorem tz_len (l : List UInt8) (n a : Nat) (acc : List Int) : (tz l n a acc).1.length ≤ acc.length + n := by
  induction n generalizing a acc with
  | zero => simp [tz]
  | succ n ih =>
    rw [tz]
    split
    · have := ih (a + (cnt maxU (l.drop a)).2.1) (acc ++ [unfold1 (cnt maxU (l.drop a)).1])
      simp at this
      omega
    · simp
theorem tz_at (l : List UInt8) (n a : Nat) (acc : List Int) (ha : a ≤ l.length) : (tz l n a acc).2.1 ≤ l.length := by
  induction n generalizing a acc with
  | zero => simpa [tz] using ha
  | succ n ih =>
    rw [tz]
    have := cnt_used maxU (l.drop a)
    rw [List.length_drop] at this
    split
    · exact ih _ _ (by omega)
    · simp
theorem lenOf_le (m : Nat) (l : List UInt8) : (lenOf m l).1 ≤ m := by
  unfold lenOf
  split
  · split
    · simp
    · rename_i h; simpa using h
  · simp

/-- The loop of TakeInts: it goes well, or something is wrong. -/
def ZInv (l : List UInt8) (k : Nat) (a e : Int) (acc : List Int) : Prop :=
  (e = 0 ∧ ∃ b : Nat, a = b ∧ b ≤ l.length ∧ takeZ l = tz l k b acc) ∨ (e ≠ 0 ∧ takeZ l = ([], 0, e))

set_option maxHeartbeats 1000000 in
set_option maxRecDepth 100000 in
theorem takeInts_any (A : Option Addr) (l : List UInt8) (c : Nat) (w : World) (hr : Rd w w.heap.size A (cells l)) (hl : l.length ≤ 4611686018427387904) :
    Calls Try.prog 37 #[.slice A l.length c] w fun e w' => ∃ v, e = .returned (.tuple #[v, .int .i64 (takeZ l).2.1, .int .i64 (takeZ l).2.2]) ∧ Is w' w.heap.size v (takeZ l).1 ∧ Below w.heap.size w w' := by
  go_enter Try.func37, Try.ntmps37
  go_wp2_with fail
  refine (length_any w.heap.size 4096 A l c _ (tk_new _ _) hl (hr.alloc (Nat.le_refl _) _) (by omega)).mono ?_
  rintro e w1 ⟨rfl, htk, hg⟩
  have hb := below_box hg
  clear hg
  have hstart : ZInv l (lenOf 4096 l).1 (cnt maxI l).2.1 (lenOf 4096 l).2 [] := by
    by_cases he : (lenOf 4096 l).2 = 0
    · exact .inl ⟨he, _, rfl, cnt_used _ _, if_pos he⟩
    · exact .inr ⟨he, if_neg he⟩
  have hn := lenOf_le 4096 l
  have htk' := Lib.hid htk
  clear htk
  go_wp2_with fail
  go_loopw [6, 7] (fun v n wr => ∃ (k : Nat) (a e : Int) (acc : List Int), n = .int .i64 k ∧ k + acc.length ≤ 4096 ∧ Tk wr w.heap.size a e (.slice A l.length c) ∧ Own wr (w.heap.size + 1) 3 v (acc.map (Value.int .i64)) ∧ Below w.heap.size w wr ∧ ZInv l k a e acc)
    (fun _ n _ => (intOf n).toNat)
  case atStart => exact ⟨(lenOf 4096 l).1, _, _, [], rfl, by simpa using hn, htk'.out, Own.nil _ _ _, hb, hstart⟩
  case round =>
    clear hb hstart hn htk'
    obtain ⟨k, a, e, acc, rfl, hk, htk, hown, hb, hinv⟩ := hrel
    obtain ⟨h0, h1, h2, f0, f1⟩ := tk_cells htk
    have hsz := htk.lt
    rcases hinv with ⟨rfl, b, rfl, hbl, hz⟩ | ⟨he, hz⟩
    · have HZ := Lib.hid hz
      clear hz
      by_cases hk0 : 0 < k
      · have hcu := cnt_used maxU (l.drop b)
        rw [List.length_drop] at hcu
        go_wp2_with fail
        refine (number_any w.heap.size b A l c _ htk hbl hl (hr.below hb)).mono ?_
        rintro e' w2 ⟨rfl, htk2, hg2⟩
        have hown2 := hown.far hg2 (by omega)
        have hb2 : Below w.heap.size w w2 := hb.grown hg2 (by omega) (by simp)
        have hsz2 := htk2.lt
        clear htk hown hb hg2 h0 h1 h2 f0 f1
        go_wp2_with (at_builtin; refine wpList_push rfl (.tmp 25) (.tmp 28) 41 rfl (w.heap.size + 1) 3 (.int .i64 0) 8 Try.underlying41 info_int rfl _ _ _ _ rfl rfl hown2 rfl rfl (by rw [List.length_map]; omega) (by rw [List.length_map]; omega) (by omega) ?_)
        intro v' w3 hown3 hg3 hf3
        have htk3 : Tk w3 w.heap.size _ _ _ := htk2.grown hg3 (fun h => by have := (hown2.lt _ h.symm).1; omega)
        have hb3 : Below w.heap.size w w3 := hb2.grown hg3 (by omega) (fun k hk => by have := (hown2.lt _ hk).1; omega)
        have hown4 : Own w3 (w.heap.size + 1) 3 v' ((acc ++ [unfold1 (cnt maxU (l.drop b)).1]).map (Value.int .i64)) := by rw [List.map_append]; exact hown3
        have hinv2 : ZInv l (k - 1) (b + (cnt maxU (l.drop b)).2.1 : Nat) (cnt maxU (l.drop b)).2.2 (acc ++ [unfold1 (cnt maxU (l.drop b)).1]) := by
          obtain ⟨k', rfl⟩ : ∃ k', k = k' + 1 := ⟨k - 1, by omega⟩
          by_cases he : (cnt maxU (l.drop b)).2.2 = 0
          · refine .inl ⟨he, _, rfl, by omega, ?_⟩
            rw [HZ.out, tz, if_pos he]
            rfl
          · exact .inr ⟨he, by rw [HZ.out, tz, if_neg he]⟩
        clear htk2 hown2 hb2 hown3 hg3 hf3
        go_wp2
        go_roundw
        case rel => exact ⟨k - 1, _, _, _, by go_num, by simp; omega, htk3, hown4, hb3, hinv2⟩
        case measure => simp [intOf]; omega
      · obtain rfl : k = 0 := by omega
        go_wp2_with fail
        go_quiet (fail)
        go_wp2
        go_ret3
        rw [HZ.out, tz]
        exact ⟨_, rfl, hown.mono (by omega), below_drewN hb _⟩
    · have HZ := Lib.hid hz
      clear hz
      have he1 : (e == 0) = false := by simpa using he
      have he2 : (e != 0) = true := by simpa using he
      by_cases hk0 : 0 < k
      · go_wp2_with fail
        go_quiet (fail)
        go_wp2
        go_ret3
        rw [HZ.out]
        exact ⟨_, rfl, Own.nil _ _ _, below_drewN hb _⟩
      · go_wp2_with fail
        go_quiet (fail)
        go_wp2
        go_ret3
        rw [HZ.out]
        exact ⟨_, rfl, Own.nil _ _ _, below_drewN hb _⟩
end Go.Proofs.Ytelplpajpfkfiaa
