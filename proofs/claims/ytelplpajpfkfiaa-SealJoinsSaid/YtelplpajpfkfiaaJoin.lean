/- bytes.Join of two rows or more, without a separator. Condition: all bytes together at most 2^46. -/
import Derived.Test.YtelplpajpfkfiaaOpenS
import Derived.Laws.Externs
import Derived.Lib.MakeNoZero
set_option linter.unusedVariables false
namespace Go.Proofs.Ytelplpajpfkfiaa
open Go.RowKit Oct

/-- A slice of the call's own whose block may be longer than its capacity. -/
def Held (w : World) (base : Nat) (v : Value) (l : List UInt8) : Prop := ∃ g rest, v = .slice (some ⟨g, 0, none⟩) l.length l.length ∧ base ≤ g ∧ Blk w g 5 (cells l ++ rest).toArray
theorem run_cut3 {P : Program} {T e : TypeId} {z : Value} {bytes : Nat} (ht : P.underlying T = some (.slice e)) (hinfo : (P.info? e).map (fun i => (i.zero, i.size, i.bytes)) = some (some z, 1, bytes)) (A : Option Addr) (len cap hi : Nat) (h1 : hi ≤ cap) (X : Int) (hX : X = (hi : Int)) (w : World) :
    (Instr.slice T (.slice A len cap) none (some (.int .i64 X)) (some (.int .i64 X))).run P w = .ok (.slice A hi hi) w := by
  obtain ⟨i, hi', hz, hsize, hby⟩ := info_parts hinfo
  subst hX
  rw [run_slice_hm w T A len cap (by rw [ht]; simp [Program.elem, ht]) .i64 .i64 hi hi (by omega) (by omega) (by omega)]
  have he : P.elem T = e := by simp [Program.elem, ht]
  rw [he, sizeOf_one hi' hsize]
  have hm : A.map (·.add 0) = A := by cases A <;> simp [Addr.add]
  simp [sliced, Result.andThen, hm]

theorem cutA_in {g bp T : Nat} (h : bp < T) : cutA (some ⟨g, 0, none⟩) bp T = some ⟨g, bp, none⟩ := by
  unfold cutA
  rw [if_neg (by omega)]
  simp [Addr.add_lit]
theorem splice_cells (a b : List UInt8) (r : List Value) : splice (cells a ++ r) a.length (cells b) = cells (a ++ b) ++ r.drop b.length := by
  unfold splice
  rw [cells_append, ← cells_length a, List.take_left, List.append_assoc]
  congr 2
  rw [← List.drop_drop, List.drop_left, cells_length]
/-- 'copy(b[bp:], v)': b is filled from the front. -/
theorem wpList_fill {w : World} {ops : Array Oper} {rest : List Oper} {o : Oper} {a : Act} {Q : Exit → Act → World → Prop} (hgd : o.guard = none) (d s : Operand)
    (ho : o.op = .call { callee := .builtin .copy, args := #[d, s], argTypes := #[22, 22] })
    (dp A : Option Addr) (dLen dCap n c : Nat) (hd : a.eval d = .slice dp dLen dCap) (hs : a.eval s = .slice A n c)
    (g : Nat) (acc : List UInt8) (r : List Value) (hb : Blk w g 5 (cells acc ++ r).toArray) (l : List UInt8) (hn : n = l.length) (hle : l.length ≤ dLen) (hdp : 0 < l.length → dp = some ⟨g, acc.length, none⟩) (hfit : l.length ≤ r.length)
    (B : Nat) (hr : Rd w B A (cells l)) (base : Nat) (w0 : World) (hbe : Below base w0 w) (hbg : base ≤ g)
    (h : ∀ w', Blk w' g 5 (cells (acc ++ l) ++ r.drop l.length).toArray → Below base w0 w' → wpList Try.prog ops Q rest (a.put o.dst (goInt l.length)) w') : wpList Try.prog ops Q (o :: rest) a w := by
  subst hn
  obtain ⟨i, hi, _, hsz, _⟩ := info_parts info_u8
  refine wpList_copy_splice hgd d s _ _ ho 5 Try.underlying22 (by rw [hi]; simp [hsz]) dp A dLen dCap l.length c hd hs g acc.length (cells acc ++ r) 5 hb (cells l) (by rw [cells_length]; exact (Nat.min_eq_left hle).symm) (fun h0 => ⟨hdp (by rw [cells_length] at h0; exact h0), ?_⟩) (by rw [cells_length, List.length_append, cells_length]; omega) (bytes_one l) base w0 hbe hbg fun w' h1 h2 => ?_
  · obtain ⟨ad, h1, _, h3⟩ := hr h0
    exact ⟨ad, h1, h3⟩
  · have h3 := h1.out
    rw [splice_cells] at h3
    rw [cells_length]
    exact h w' h3 h2
theorem flat_le (ps : List Row) (k : Nat) : (flat (ps.take k)).length ≤ (flat ps).length := by
  have h : flat ps = flat (ps.take k) ++ flat (ps.drop k) := by
    unfold flat
    rw [← List.flatMap_append, List.take_append_drop]
  rw [h, List.length_append]
  omega
theorem flat_one (ps : List Row) (h : 0 < ps.length) : flat (ps.take 1) = ps[0].l := by
  rw [flat_take ps 0 h]
  simp [flat]

set_option maxHeartbeats 4000000 in
set_option maxRecDepth 100000 in
theorem join_two (A : Option Addr) (ps : List Row) (n c : Nat) (hn : n = ps.length) (h2 : 2 ≤ ps.length) (w : World) (hr : Rd w w.heap.size A (ps.map Row.val)) (hp : RRd w w.heap.size ps) (hl : ps.length ≤ 140737488351232) (hf : (flat ps).length ≤ 140737488351232) (hnc : ps.length ≤ c) :
    Calls Try.prog 76 #[.slice A n c, .slice none 0 0] w fun e w' => ∃ v, e = .returned v ∧ Held w' w.heap.size v (flat ps) ∧ Below w.heap.size w w' := by
  subst hn
  have HP := Lib.hid hp
  clear hp
  go_enter Try.func76, Try.ntmps76
  go_wp2_with fail
  go_loop [44, 5, 7] (fun i s _ => ∃ k : Nat, k ≤ ps.length ∧ i = .int .i64 k ∧ s = .int .i64 ((flat (ps.take k)).length : Nat)) (fun i _ _ => ps.length - (intOf i).toNat)
  case atStart => exact ⟨0, by omega, rfl, rfl⟩
  case round =>
    obtain ⟨k, hk, rfl, rfl⟩ := hrel
    by_cases hlt : k < ps.length
    · obtain ⟨ad, rfl, hbk, hcell⟩ := rd_at hr hlt
      obtain ⟨a, l, c', hrow⟩ : ∃ a l c', ps[k] = Row.mk a l c' := ⟨_, _, _, rfl⟩
      have hF := flat_take ps k hlt
      have hle := flat_le ps (k + 1)
      rw [hF, hrow, List.length_append] at hle
      have hlen : (flat (ps.take (k + 1))).length = (flat (ps.take k)).length + l.length := by rw [hF, hrow, List.length_append]
      rw [hrow] at hcell
      have hcell' : w.cell? (ad.add k) = some (.slice a l.length c') := hcell
      have hkI : (k : Int) < ps.length := by omega
      have HL := Lib.hid hlen
      replace hle : (flat (ps.take k)).length + l.length ≤ (flat ps).length := hle
      generalize (flat (ps.take k)).length = N at hle HL ⊢
      clear hrow hcell hF hlen
      go_wp2
      exact ⟨⟨k + 1, by omega, by go_num, by rw [HL.out]; go_num⟩, by simp [intOf]; omega⟩
    · obtain rfl : k = ps.length := by omega
      rw [List.take_length]
      obtain ⟨T, hT⟩ : ∃ T, T = (flat ps).length := ⟨_, rfl⟩
      rw [← hT] at hf ⊢
      have HT := Lib.hid hT
      clear hT
      obtain ⟨cs, hrunM, hle, _⟩ := Lib.run_makeNoZero (P := Try.prog) w #[3] 22 5 Try.underlying22 T (by omega)
      have hcall : (callFunc 88 #[.int .i64 (T : Int)]).run Try.prog w = .ok (.value (.slice (some ⟨w.heap.size, 0, none⟩) T cs.size)) ((w.alloc (.cells cs 5)).drewN 2) := by
        rw [run_callFunc_extern Try.func88 (by kernel_rfl) (by kernel_rfl) (by kernel_rfl) (e := Extern.BytealgMakeNoZero.makeNoZero #[3] #[22]) (by kernel_rfl), hrunM]
        rfl
      have hcut := fun W : World => run_cut3 (P := Try.prog) Try.underlying22 info_u8 (some ⟨w.heap.size, 0, none⟩) T cs.size T hle (T : Int) rfl W
      clear hrunM
      obtain ⟨ad, rfl, hbk, hcell⟩ := rd_at hr (k := 0) (by omega)
      obtain ⟨a0, l0, c0, hrow⟩ : ∃ a l c', ps[0] = Row.mk a l c' := ⟨_, _, _, rfl⟩
      have hf1 : flat (ps.take 1) = l0 := by rw [flat_one ps (by omega), hrow]
      have hle0 := flat_le ps 1
      rw [hf1, ← HT.out] at hle0
      have hps0 := HP.out _ (List.getElem_mem (show 0 < ps.length by omega))
      rw [hrow] at hcell hps0
      have hb0 : Below w.heap.size w ((w.alloc (.cells cs 5)).drewN 2) := below_drewN ((Below.refl _ _).alloc (Nat.le_refl _) _) 2
      have hcell0 : ((w.alloc (.cells cs 5)).drewN 2).cell? (ad.add 0) = some (.slice a0 l0.length c0) := (hb0.cell (by rw [block_of_add]; exact hbk)).trans hcell
      rw [show ad.add 0 = ad by simp [Addr.add]] at hcell0
      have hblk0 : Blk ((w.alloc (.cells cs 5)).drewN 2) w.heap.size 5 (cells [] ++ cs.toList).toArray := by rw [cells_nil, List.nil_append, Array.toArray_toList]; exact (Blk.new w 5 cs).drewN 2
      have hrd0 : Rd ((w.alloc (.cells cs 5)).drewN 2) w.heap.size a0 (cells l0) := hps0.1.below hb0
      have hlI : (0 : Int) < ps.length := by omega
      have HFIT : Hid (l0.length ≤ cs.toList.length) := Lib.hid (by have := @Array.length_toList _ cs; omega)
      have HF1 := Lib.hid hf1
      have HRD0 := Lib.hid hrd0
      have HBLK0 := Lib.hid hblk0
      have HB0 := Lib.hid hb0
      clear hrow hcell hf1 hps0 hrd0 hblk0 hb0
      go_wp2_with (with_reducible refine wpList_fill rfl (.tmp 64) (.tmp 67) rfl (some ⟨w.heap.size, 0, none⟩) a0 T T l0.length c0 rfl rfl w.heap.size [] cs.toList HBLK0.out l0 rfl hle0 (fun _ => rfl) HFIT.out w.heap.size HRD0.out w.heap.size w HB0.out (Nat.le_refl _) ?_; intro w1 hblk1 hb1)
      have hcap1 : 1 ≤ c := by omega
      have hblk1' : Blk w1 w.heap.size 5 (cells (flat (ps.take 1)) ++ cs.toList.drop (flat (ps.take 1)).length).toArray := by rw [HF1.out]; simpa using hblk1
      have HS0 : Hid ((l0.length : Int) = ((flat (ps.take (0 + 1))).length : Nat)) := Lib.hid (by rw [HF1.out])
      clear hblk1 HRD0 HBLK0 HB0 hcell0 hcall hcut HF1
      go_wp2_with fail
      go_loopw [72, 9, 11] (fun i bp _ wr => ∃ k : Nat, k ≤ ps.length - 1 ∧ i = .int .i64 k ∧ bp = .int .i64 ((flat (ps.take (k + 1))).length : Nat) ∧ Blk wr w.heap.size 5 (cells (flat (ps.take (k + 1))) ++ cs.toList.drop (flat (ps.take (k + 1))).length).toArray ∧ Below w.heap.size w wr) (fun i _ _ _ => ps.length - (intOf i).toNat)
      case atStart => exact ⟨0, by omega, rfl, by rw [HS0.out], hblk1', hb1⟩
      case round =>
        obtain ⟨k, hk, rfl, rfl, hblk, hbw⟩ := hrel
        by_cases hlt : k < ps.length - 1
        · obtain ⟨ad', had, hbk', hcell⟩ := rd_at hr (k := k + 1) (by omega)
          obtain rfl : ad = ad' := by injection had
          obtain ⟨a, l, c', hrow⟩ : ∃ a l c', ps[k + 1]'(by omega) = Row.mk a l c' := ⟨_, _, _, rfl⟩
          have hF := flat_take ps (k + 1) (by omega)
          have hle := flat_le ps (k + 1 + 1)
          rw [hF, hrow, List.length_append, ← HT.out] at hle
          replace hle : (flat (ps.take (k + 1))).length + l.length ≤ T := hle
          have hlen : (flat (ps.take (k + 1 + 1))).length = (flat (ps.take (k + 1))).length + l.length := by rw [hF, hrow, List.length_append]
          rw [hrow] at hF
          have hps := HP.out _ (List.getElem_mem (show k + 1 < ps.length by omega))
          rw [hrow] at hcell hps
          have hcell' : wr.cell? ⟨ad.block, ad.off + 1 + k, none⟩ = some (.slice a l.length c') := by
            have h1 := (hbw.cell (p := ad.add (k + 1)) (by rw [block_of_add]; exact hbk)).trans hcell
            have h2 : ad.add (k + 1) = ⟨ad.block, ad.off + 1 + k, none⟩ := by unfold Addr.add; rw [if_neg (by omega), show ad.off + (k + 1) = ad.off + 1 + k by omega]
            rw [h2] at h1
            exact h1
          have hrl : Rd wr w.heap.size a (cells l) := hps.1.below hbw
          have hkI : (k : Int) < ((ps.length - 1 : Nat) : Int) := by omega
          obtain ⟨acc, hacc⟩ : ∃ acc, acc = flat (ps.take (k + 1)) := ⟨_, rfl⟩
          rw [← hacc] at hblk hle hlen hF ⊢
          obtain ⟨N, hN⟩ : ∃ N, N = acc.length := ⟨_, rfl⟩
          have hcutf := fun W : World => run_cut_from (P := Try.prog) Try.underlying22 info_u8 (some ⟨w.heap.size, 0, none⟩) T T N (by omega) (N : Int) rfl W
          have hfit : l.length ≤ (cs.toList.drop acc.length).length := by have := @Array.length_toList _ cs; rw [List.length_drop]; omega
          have hcin : 0 < l.length → cutA (some ⟨w.heap.size, 0, none⟩) N T = some ⟨w.heap.size, acc.length, none⟩ := fun h0 => by rw [cutA_in (by omega), hN]
          have HH : Hid (flat (ps.take (k + 1 + 1)) = acc ++ l) := Lib.hid hF
          have HL : Hid (((N : Int) + l.length) = ((flat (ps.take (k + 1 + 1))).length : Nat)) := Lib.hid (by rw [hlen, hN]; omega)
          have HL2 : Hid ((flat (ps.take (k + 1 + 1))).length = acc.length + l.length) := Lib.hid hlen
          have HBLK := Lib.hid hblk
          have HRL := Lib.hid hrl
          have HFIT2 := Lib.hid hfit
          have HCIN := Lib.hid hcin
          have HBW := Lib.hid hbw
          rw [← hN] at hle ⊢
          have hle3 : l.length ≤ T - N := by omega
          clear hrow hcell hF hlen hps hN hacc hblk hrl hfit hcin hbw had hk
          obtain ⟨i5, hi5, _, hsz5, _⟩ := info_parts info_u8
          have hi5' : (Try.prog.info? 5).map (·.size) = some 1 := by rw [hi5]; simp [hsz5]
          clear hi5 hsz5
          go_wp2_with (first | (with_reducible refine wpList_copy_nothing rfl (.tmp 79) (.tmp 80) _ _ rfl 5 Try.underlying22 hi5' (cutA (some ⟨w.heap.size, 0, none⟩) N T) none (T - N) (T - N) 0 0 rfl rfl (by simp) ?_) | (with_reducible refine wpList_fill rfl (.tmp 86) (.tmp 87) rfl (cutA (some ⟨w.heap.size, 0, none⟩) N T) a (T - N) (T - N) l.length c' rfl rfl w.heap.size acc (cs.toList.drop acc.length) HBLK.out l rfl hle3 HCIN.out HFIT2.out w.heap.size HRL.out w.heap.size w HBW.out (Nat.le_refl _) ?_); intro w2 hblk2 hb2)
          go_roundw
          case rel =>
            refine ⟨k + 1, by omega, by go_num, by rw [HL.out], ?_, hb2⟩
            rw [HL2.out, HH.out, ← List.drop_drop]
            exact hblk2
          case measure => simp [intOf]; omega
        · obtain rfl : k = ps.length - 1 := by omega
          have hfl : flat (ps.take (ps.length - 1 + 1)) = flat ps := by rw [show ps.length - 1 + 1 = ps.length by omega, List.take_length]
          rw [hfl] at hblk ⊢
          go_wp2
          go_ret
          refine ⟨_, rfl, ?_, hbw⟩
          rw [HT.out]
          exact ⟨_, _, rfl, Nat.le_refl _, hblk⟩

/-- Bytes that a call has made: they read, and they are their owner's. -/
structure Got (w : World) (base : Nat) (v : Value) (l : List UInt8) : Prop where
  shape : ∃ A c, v = .slice A l.length c ∧ l.length ≤ c ∧ c ≤ 9223372036854775807 ∧ Rd w w.heap.size A (cells l)
  row : RowOk w base v
theorem Got.of_own {w : World} {base : Nat} {v : Value} {l : List UInt8} (h : Bs w base v l) : Got w base v l := by
  obtain ⟨A, c, h1, h2, h3, h4⟩ := bs_shape h
  exact ⟨⟨A, c, h1, h2, by omega, h4⟩, RowOk.of_own h⟩
theorem Got.of_held {w : World} {base : Nat} {v : Value} {l : List UInt8} (h : Held w base v l) (hl : l.length ≤ 9223372036854775807) : Got w base v l := by
  obtain ⟨g, rest, rfl, hb, hblk⟩ := h
  refine ⟨⟨_, _, rfl, Nat.le_refl _, hl, fun _ => ⟨_, rfl, hblk.lt, fun j u hu => ?_⟩⟩, .inr ⟨g, _, _, _, rfl, hb, hblk, by simp [cells], Nat.le_refl _, hl⟩⟩
  rw [show (⟨g, 0, none⟩ : Addr).add j = ⟨g, j, none⟩ by simp [Addr.add_lit], hblk.cell]
  have hj : j < (cells l).length := (List.getElem?_eq_some_iff.1 hu).1
  simp only [List.getElem?_toArray]
  rw [List.getElem?_append_left hj]
  exact hu
theorem Got.below {w w' : World} {base B : Nat} {v : Value} {l : List UInt8} (h : Got w base v l) (hb : Below B w w') (hB : w.heap.size ≤ B) : Got w' base v l := by
  obtain ⟨A, c, h1, h2, h3, h4⟩ := h.shape
  have hb' := hb.mono hB
  exact ⟨⟨A, c, h1, h2, h3, (h4.below hb').more hb'.size⟩, h.row.keep fun g hg => hb'.block g (h.row.lt g hg)⟩
theorem Got.mono {w : World} {base base' : Nat} {v : Value} {l : List UInt8} (h : Got w base v l) (hb : base' ≤ base) : Got w base' v l := by
  refine ⟨h.shape, ?_⟩
  rcases h.row with r | ⟨g, n, cap, cur, r, hg, x⟩
  · exact .inl r
  · exact .inr ⟨g, n, cap, cur, r, by omega, x⟩

set_option maxRecDepth 100000 in
theorem join_any (A : Option Addr) (ps : List Row) (n c : Nat) (hn : n = ps.length) (w : World) (hr : Rd w w.heap.size A (ps.map Row.val)) (hp : RRd w w.heap.size ps) (hl : ps.length ≤ 140737488351232) (hf : (flat ps).length ≤ 140737488351232) (hnc : ps.length ≤ c) :
    Calls Try.prog 76 #[.slice A n c, .slice none 0 0] w fun e w' => ∃ v, e = .returned v ∧ Got w' w.heap.size v (flat ps) ∧ Below w.heap.size w w' := by
  by_cases h2 : 2 ≤ ps.length
  · refine (join_two A ps n c hn h2 w hr hp hl hf hnc).mono ?_
    rintro e w' ⟨v, rfl, h, hb⟩
    exact ⟨v, rfl, .of_held h (by omega), hb⟩
  subst hn
  match ps, hr, hp, hf, hnc, h2 with
  | [], hr, hp, hf, hnc, h2 =>
    clear hr hp hf hl h2
    go_enter Try.func76, Try.ntmps76
    go_wp2
    go_ret
    exact ⟨_, rfl, .of_own (own_nothing w w.heap.size _ (Nat.le_refl _)), (Below.refl _ _).alloc (Nat.le_refl _) _⟩
  | [r], hr, hp, hf, hnc, h2 =>
    obtain ⟨ad, rfl, hbk, hcell⟩ := rd_at hr (k := 0) (by simp)
    obtain ⟨a, l, c'⟩ := r
    have hps := hp _ (List.mem_singleton.2 rfl)
    have hfl : flat [Row.mk a l c'] = l := by simp [flat]
    rw [hfl] at hf ⊢
    have hcell0 : w.cell? ad = some (.slice a l.length c') := by
      rw [show ad.add 0 = ad by simp [Addr.add]] at hcell
      exact hcell
    have hrl : Rd w w.heap.size a (cells l) := hps.1
    have hc1 : 0 < c := by simp at hnc; omega
    clear hr hp hps h2 hfl hcell hnc
    go_enter Try.func76, Try.ntmps76
    go_wp2_with (at_builtin; with_reducible refine wpList_append_any rfl (.const (.slice none 0 0)) (.tmp 21) 22 rfl w.heap.size 5 (.int .u8 0) 1 Try.underlying22 info_u8 rfl _ [] rfl (Own.nil _ _ _) w.heap.size a l.length c' _ rfl (cells_length _).symm hrl (bytes_one _) (by unfold maxLen; simp; omega) (by simp; omega) (Nat.le_refl _) ?_; intro v1 w1 hov hg hf1)
    go_ret
    refine ⟨_, rfl, ?_, below_of_grown hg⟩
    rw [List.nil_append] at hov
    exact .of_own hov
  | _ :: _ :: _, hr, hp, hf, hnc, h2 => exact absurd (by simp) h2
end Go.Proofs.Ytelplpajpfkfiaa
