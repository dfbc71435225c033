/- KeepCodes: any snapshot, any bytes: the walk. Condition: the arguments can be read, within the form's reach. -/
import Derived.Test.YtelplpajpfkfiaaKeepRPieces
import Derived.Test.YtelplpajpfkfiaaOpen
set_option linter.unusedVariables false
namespace Go.Proofs.Ytelplpajpfkfiaa
open Go.RowKit Oct

/-- Nothing from N on has turned, nor below B. -/
structure Hole (B N : Nat) (w w' : World) : Prop where
  below : Below B w w'
  block : ∀ k, N ≤ k → k < w.heap.size → w'.heap[k]? = w.heap[k]?
theorem Hole.of_but {x y : Value} {w w' : World} (h : But x y w w') {B N : Nat} (hB : B ≤ w.heap.size) (hx : ∀ k, x.ownBlock = some k → B ≤ k ∧ k < N) (hy : ∀ k, y.ownBlock = some k → B ≤ k ∧ k < N) : Hole B N w w' :=
  ⟨h.below hB (fun k e => (hx k e).1) (fun k e => (hy k e).1), fun k hk hs => h.block k hs (fun e => by have := (hx k e).2; omega) (fun e => by have := (hy k e).2; omega)⟩
section
variable {B N : Nat} {w w' : World} (h : Hole B N w w')
include h
theorem Hole.got {base : Nat} {v : Value} {l : List UInt8} (hg : Got w base v l) (hb : N ≤ base) : Got w' base v l :=
  hg.kept (fun g hv => h.block g (Nat.le_trans hb (hg.row.base g hv)) (hg.row.lt g hv)) h.below.size
theorem Hole.blk {g : Nat} {t : TypeId} {cs : Array Value} (hg : Blk w g t cs) (hb : N ≤ g ∨ g < B) : Blk w' g t cs := by
  rcases hb with hb | hb
  · exact (h.block g hb hg.lt).trans hg
  · exact (h.below.block g hb).trans hg
theorem Hole.own {base : Nat} {e : TypeId} {v : Value} {xs : List Value} (hg : Own w base e v xs) (hb : N ≤ base) : Own w' base e v xs := by
  refine ⟨hg.1, ?_⟩
  rcases hg.2 with h2 | ⟨g, cap, cur, hv, hb2, hg2, r⟩
  · exact .inl h2
  · exact .inr ⟨g, cap, cur, hv, hb2, (h.block g (by omega) (Array.getElem?_eq_some_iff.1 hg2).1).trans hg2, r⟩
theorem Hole.pcs {base : Nat} {v : Value} {i t m : Int} {xs : List Value} {ls : List (List UInt8)} (hg : GotPcs w base v i t m xs ls) (hb : N ≤ base) : GotPcs w' base v i t m xs ls :=
  hg.kept h.below.size (fun g cs e _ hc hb2 => h.block g (by omega) (Array.getElem?_eq_some_iff.1 hc).1)
end
theorem Hole.snapAt {B N : Nat} {w w' : World} (h : Hole B N w w') {g : Nat} {i t : Int} {x y : Value} (hs : SnapAt w g i t x y) (hb : N ≤ g ∨ g < B) : SnapAt w' g i t x y := by
  have hlt := snapAt_lt hs
  have hk : w'.heap[g]? = w.heap[g]? := by
    rcases hb with hb | hb
    · exact h.block g hb (by omega)
    · exact h.below.block g hb
  have hc : ∀ j, w'.cell? ⟨g, j, none⟩ = w.cell? ⟨g, j, none⟩ := fun j => World.cell?_of_block (w := w) hk
  exact ⟨(hc 0).trans hs.1, (hc 1).trans hs.2.1, (hc 2).trans hs.2.2.1, (hc 3).trans hs.2.2.2⟩
theorem Apart.take {vs : List Value} (h : Apart vs) (k : Nat) : Apart (vs.take k) := fun i j hi hj hij g h1 h2 => by
  rw [List.length_take] at hi hj
  simp only [List.getElem_take] at h1 h2
  exact h i j (by omega) (by omega) hij g h1 h2

theorem Apart.append {a b : List Value} (ha : Apart a) (hb : Apart b) (h : ∀ x ∈ a, ∀ y ∈ b, ∀ g, x.ownBlock = some g → y.ownBlock ≠ some g) : Apart (a ++ b) := by
  intro i j hi hj hij g h1 h2
  by_cases hi1 : i < a.length <;> by_cases hj1 : j < a.length
  · rw [List.getElem_append_left hi1] at h1
    rw [List.getElem_append_left hj1] at h2
    exact ha i j hi1 hj1 hij g h1 h2
  · rw [List.getElem_append_left hi1] at h1
    rw [List.getElem_append_right (by omega)] at h2
    exact h _ (List.getElem_mem hi1) _ (List.getElem_mem _) g h1 h2
  · rw [List.getElem_append_left hj1] at h2
    rw [List.getElem_append_right (by omega)] at h1
    exact h _ (List.getElem_mem hj1) _ (List.getElem_mem _) g h2 h1
  · rw [List.getElem_append_right (by omega)] at h1
    rw [List.getElem_append_right (by omega)] at h2
    exact hb _ _ _ _ (by omega) g h1 h2
theorem own_litv (w : World) (base : Nat) (e : TypeId) (vs : List Value) (hb : base ≤ w.heap.size) (hl : vs.length ≤ maxLen) : Own (w.alloc (.cells vs.toArray e)) base e (.slice (some ⟨w.heap.size, 0, none⟩) vs.length vs.length) vs :=
  ⟨by simp, .inr ⟨w.heap.size, vs.length, vs.toArray, rfl, hb, heap_alloc_new w _, Nat.le_refl _, hl, by simp, by simp⟩⟩
/-- The cell of a piece's bytes. -/
theorem GotPcs.bytes_at {w : World} {base g n c : Nat} {i t m : Int} {xs : List Value} {ls : List (List UInt8)} (h : GotPcs w base (.slice (some ⟨g, 0, none⟩) n c) i t m xs ls) {k : Nat} (hk : k < xs.length) : w.cell? ⟨g, k * 5 + 4, none⟩ = some xs[k] := by
  obtain ⟨_, _, _, _, e4⟩ := pcCells_get i t m 0 xs k hk
  have := World.ownsRow.cells h.own (g := g) rfl _ _ e4
  rwa [add_zero_lit] at this
theorem take3 (a b c : Value) (xs : List Value) (k : Nat) : ([a, b, c] ++ xs).take (3 + k) = [a, b, c] ++ xs.take k := by rw [show 3 + k = k + 1 + 1 + 1 by omega]; rfl
theorem oZ_len (b : List UInt8) : (oZ b).length ≤ 4096 := by
  unfold oZ
  split
  · rename_i h
    unfold readB at h
    simp only [Bool.and_eq_true, decide_eq_true_eq] at h
    exact (takeZ_form h.1.2).2.2.1
  · simp
set_option maxHeartbeats 8000000 in
set_option maxRecDepth 100000 in
theorem keepCodes_walk (w : World) (i : Int) (hi : -9223372036854775808 ≤ i ∧ i ≤ 9223372036854775807) (t : Int) (ht : -9223372036854775808 ≤ t ∧ t ≤ 9223372036854775807) (Av : Option Addr) (z : List Int) (cv : Nat) (hz : InInts w Av z cv) (Ad : Option Addr) (l : List UInt8) (cd : Nat) (hl : In8 w Ad l cd)
    (A : Option Addr) (b : List UInt8) (c : Nat) (hb : In8 w A b c) :
    Calls Try.prog 16 #[.agg #[.int .i64 i, .int .i64 t, .slice Av z.length cv, .slice Ad l.length cd], .slice A b.length c] w fun e w' => e = .returned (.bool true) ∧ Below w.heap.size w w' := by
  have hS0 := Lib.hid (snapAt_new w i t (.slice Av z.length cv) (.slice Ad l.length cd))
  have hb0 := Lib.hid ((Below.refl w.heap.size w).alloc (Nat.le_refl _) (Obj.cells #[.int .i64 i, .int .i64 t, .slice Av z.length cv, .slice Ad l.length cd] 59))
  have HIN := Lib.hid (And.intro hz (And.intro hl hb))
  have hbl : b.length ≤ 140737488351232 := Nat.le_trans hb.le hb.cap
  have hll : l.length ≤ 140737488351232 := Nat.le_trans hl.le hl.cap
  have hzl : z.length ≤ 140737488351232 := by have := hz.le; have := hz.cap; omega
  clear hz hl hb
  go_enter Try.func16, Try.ntmps16
  go_wp2_with fail
  refine (keepSmall _).mono ?_
  rintro e w1 ⟨rfl, hb1⟩
  have hs1 : w.heap.size + 1 ≤ w1.heap.size := by have := hb1.size; simp at this; exact this
  have hS1 := Lib.hid (hS0.out.below hb1 (by simp))
  have hb01 := Lib.hid (hb0.out.trans (hb1.mono hb0.out.size))
  clear hb1 hb0 hS0
  obtain ⟨s0, s1, s2, s3⟩ := hS1.out
  by_cases hbig : 2097152 < (b.length : Int) ∨ 2097152 < (l.length : Int) ∨ 1000 < (z.length : Int)
  · clear HIN
    rcases Int.lt_or_le 2097152 (b.length : Int) with h1 | h1
    · go_wp2
      go_ret
      exact ⟨rfl, hb01.out⟩
    · rcases Int.lt_or_le 2097152 (l.length : Int) with h2 | h2
      · go_wp2
        go_ret
        exact ⟨rfl, hb01.out⟩
      · have h3 : 1000 < (z.length : Int) := by omega
        go_wp2
        go_ret
        exact ⟨rfl, hb01.out⟩
  · have h1 : ¬ 2097152 < (b.length : Int) := by omega
    have h2 : ¬ 2097152 < (l.length : Int) := by omega
    have h3 : ¬ 1000 < (z.length : Int) := by omega
    clear hbig
    obtain ⟨hz, hl, hb⟩ := HIN.out
    go_wp2_with fail
    refine (snapLent_any i t z l Av Ad _ cv _ cd rfl rfl w1 ((hz.rd.below hb01.out).more hb01.out.size) ((hl.rd.below hb01.out).more hb01.out.size) (by omega) (by omega)).mono ?_
    rintro e w2 ⟨x, g, rfl, hx, hg, hgb, hxg, hb2⟩
    obtain ⟨Ax, cx, rfl, hcx, -⟩ := is_shape hx
    have hs2 : w1.heap.size ≤ w2.heap.size := hb2.size
    have hgl : g < w2.heap.size := hg.lt
    have hxl : Hid (∀ k, (Value.slice Ax z.length cx).ownBlock = some k → w1.heap.size ≤ k ∧ k < w2.heap.size) := Lib.hid hx.lt
    have HS2 := hS1.out.below hb2 (by omega)
    have hb02 := Lib.hid (hb01.out.trans (hb2.mono hb01.out.size))
    -- the lent snapshot's own box
    have hbA : Below w2.heap.size w2 (w2.alloc (.cells #[.int .i64 i, .int .i64 t, .slice Ax z.length cx, .slice (some ⟨g, 0, none⟩) l.length (l.length + 1)] 59)) := (Below.refl _ w2).alloc (Nat.le_refl _) _
    have hsA : (w2.alloc (.cells #[.int .i64 i, .int .i64 t, .slice Ax z.length cx, .slice (some ⟨g, 0, none⟩) l.length (l.length + 1)] 59)).heap.size = w2.heap.size + 1 := by simp
    have hIN3 := Lib.hid (snapAt_new w2 i t (.slice Ax z.length cx) (.slice (some ⟨g, 0, none⟩) l.length (l.length + 1)))
    have hS3 := Lib.hid (HS2.below hbA (by omega))
    have hb03 := Lib.hid (hb02.out.trans (hbA.mono hb02.out.size))
    have hx3 := Lib.hid (Own.below hx hbA (Nat.le_refl _))
    have hg3 := Lib.hid (hg.below hbA hgl)
    clear hb2 HS2 hS1 hb01 hx hg s0 s1 s2 s3 hb02
    go_wp2_with fail
    generalize hW3 : w2.alloc (.cells #[.int .i64 i, .int .i64 t, .slice Ax z.length cx, .slice (some ⟨g, 0, none⟩) l.length (l.length + 1)] 59) = w3 at hbA hsA hIN3 hS3 hb03 hx3 hg3 ⊢
    clear hW3 hbA
    replace hsA : w2.heap.size + 1 ≤ w3.heap.size := Nat.le_of_eq hsA.symm
    refine (lent_any A b c w3 ((hb.rd.below hb03.out).more hb03.out.size) hbl).mono ?_
    rintro e w4 ⟨rfl, hc4, hb4⟩
    have hs4 : w3.heap.size ≤ w4.heap.size := hb4.size
    have hcl := hc4.lt
    have hIN4 := Lib.hid (hIN3.out.below hb4 (by omega))
    have hS4 := Lib.hid (hS3.out.below hb4 (by omega))
    have hb04 := Lib.hid (hb03.out.trans (hb4.mono hb03.out.size))
    have hx4 := Lib.hid (Own.below hx3.out hb4 (Nat.le_refl _))
    have hg4 := Lib.hid (hg3.out.below hb4 (by omega))
    have hc4 := Lib.hid hc4
    obtain ⟨q0, q1, q2, q3⟩ := hIN4.out
    clear hb4 hIN3 hS3 hb03 hx3 hg3
    go_wp2_with fail
    refine (bytes_any i t Ax (some ⟨g, 0, none⟩) z l _ cx _ (l.length + 1) rfl rfl w4 (own_rd hx4.out) (hg4.out.rd.more (by omega)) hz.wf hzl (by omega)).mono ?_
    rintro e w5 ⟨p, rfl, hp5, hb5⟩
    obtain ⟨Ap, cp, rfl, -⟩ := hp5.shape
    have hs5 : w4.heap.size ≤ w5.heap.size := hb5.size
    have HPL : Hid (∀ k, (Value.slice Ap (snapS i t z l).length cp).ownBlock = some k → w4.heap.size ≤ k ∧ k < w5.heap.size) := Lib.hid fun k e => ⟨hp5.row.base k e, hp5.row.lt k e⟩
    have hIN5 := Lib.hid (hIN4.out.below hb5 (by omega))
    have hS5 := Lib.hid (hS4.out.below hb5 (by omega))
    have hb05 := Lib.hid (hb04.out.trans (hb5.mono hb04.out.size))
    have hx5 := Lib.hid (Own.below hx4.out hb5 (Nat.le_refl _))
    have hg5 := Lib.hid (hg4.out.below hb5 (by omega))
    have hc5 := Lib.hid (hc4.out.below hb5 (by omega))
    have hp5 := Lib.hid hp5
    clear hb5 hIN4 hS4 hb04 hx4 hg4 hc4 q0 q1 q2 q3
    go_wp2_with fail
    refine (read_any (some ⟨w3.heap.size, 0, none⟩) b _ (b.length + 1) rfl w5 (hc5.out.rd.more (by omega)) (by omega) hbl (by omega)).mono ?_
    rintro e w6 ⟨u, rfl, hu6, hb6⟩
    obtain ⟨ux, uy, rfl, hux, huy, huxy⟩ := hu6
    obtain ⟨Aux, cux, rfl, -⟩ := is_shape hux
    obtain ⟨Auy, cuy, rfl, -⟩ := bs_shape huy
    have HUXY := Lib.hid huxy
    clear huxy
    have hs6 : w5.heap.size ≤ w6.heap.size := hb6.size
    have HUL : Hid (∀ k, (Value.slice Auy (oD b).length cuy).ownBlock = some k → w5.heap.size ≤ k ∧ k < w6.heap.size) := Lib.hid (Own.lt huy)
    have hIN6 := hIN5.out.below hb6 (by omega)
    have hS6 := hS5.out.below hb6 (by omega)
    have hb06 := Lib.hid (hb05.out.trans (hb6.mono hb05.out.size))
    have hx6 := Own.below hx5.out hb6 (Nat.le_refl _)
    have hg6 := hg5.out.below hb6 (by omega)
    have hc6 := hc5.out.below hb6 (by omega)
    have hp6 := hp5.out.below hb6 (Nat.le_refl _)
    clear hb6 hIN5 hS5 hb05 hx5 hg5 hc5 hp5
    have hO : Below w6.heap.size w6 (w6.alloc (.cells #[.int .i64 (oI b), .int .i64 (oT b), .slice Aux (oZ b).length cux, .slice Auy (oD b).length cuy] 59)) := (Below.refl _ w6).alloc (Nat.le_refl _) _
    have hsO : (w6.alloc (.cells #[.int .i64 (oI b), .int .i64 (oT b), .slice Aux (oZ b).length cux, .slice Auy (oD b).length cuy] 59)).heap.size = w6.heap.size + 1 := by simp
    have hU7 := Lib.hid (snapAt_new w6 (oI b) (oT b) (.slice Aux (oZ b).length cux) (.slice Auy (oD b).length cuy))
    have hIN7 := Lib.hid (hIN6.below hO (by omega))
    have hS7 := Lib.hid (hS6.below hO (by omega))
    have hb07 := Lib.hid (hb06.out.trans (hO.mono hb06.out.size))
    have hx7 := Lib.hid (Own.below hx6 hO (Nat.le_refl _))
    have hg7 := Lib.hid (hg6.below hO (by omega))
    have hc7 := Lib.hid (hc6.below hO (by omega))
    have hp7 := Lib.hid (hp6.below hO (Nat.le_refl _))
    have hux7 := Lib.hid (Own.below hux hO (Nat.le_refl _))
    have huy7 := Lib.hid (Own.below huy hO (Nat.le_refl _))
    have hq := hIN7.out
    obtain ⟨q0, q1, q2, q3⟩ := hq
    clear hIN6 hS6 hb06 hx6 hg6 hc6 hp6 hux huy
    go_wp2_with fail
    generalize hW7 : w6.alloc (.cells #[.int .i64 (oI b), .int .i64 (oT b), .slice Aux (oZ b).length cux, .slice Auy (oD b).length cuy] 59) = w7 at hsO hU7 hIN7 hS7 hb07 hx7 hg7 hc7 hp7 hux7 huy7 ⊢
    clear hW7 hO
    replace hsO : w6.heap.size + 1 ≤ w7.heap.size := Nat.le_of_eq hsO.symm
    refine (pieces_any i t Ax (some ⟨g, 0, none⟩) z l _ cx _ (l.length + 1) rfl rfl w7 (own_rd hx7.out) (hg7.out.rd.more (by omega)) hz.wf hzl (by omega)).mono ?_
    rintro e w8 ⟨vp, xs, rfl, hP8, hb8⟩
    obtain ⟨Avp, cvp, rfl, hcvp, -, hvp⟩ := hP8.shape
    have HVP := Lib.hid hvp
    clear hvp
    have hs8 : w7.heap.size ≤ w8.heap.size := hb8.size
    have hU8 := hU7.out.below hb8 (by omega)
    have hIN8 := hIN7.out.below hb8 (by omega)
    have hS8 := hS7.out.below hb8 (by omega)
    have hb08 := hb07.out.trans (hb8.mono hb07.out.size)
    have hx8 := Own.below hx7.out hb8 (Nat.le_refl _)
    have hg8 := hg7.out.below hb8 (by omega)
    have hc8 := hc7.out.below hb8 (by omega)
    have hp8 := hp7.out.below hb8 (Nat.le_refl _)
    have hux8 := Own.below hux7.out hb8 (Nat.le_refl _)
    have huy8 := Own.below huy7.out hb8 (Nat.le_refl _)
    clear hb8 hIN7 hS7 hb07 hx7 hg7 hc7 hp7 hux7 huy7 hU7 q0 q1 q2 q3
    obtain ⟨q0, q1, q2, q3⟩ := hIN8
    obtain ⟨s0, s1, s2, s3⟩ := id hS8
    have HX8 := Lib.hid hx8
    have HG8 := Lib.hid hg8
    clear hx8 hg8
    have hPK := Lib.hid hP8
    clear hP8
    go_wp2_with fail
    refine (snapKept_any i t z l Ax _ cx g Av Ad _ cv _ cd rfl rfl rfl w8 w1.heap.size (Own.mono HX8.out (by omega)) HG8.out (by omega) hxg ((hz.rd.below hb08).more hb08.size) ((hl.rd.below hb08).more hb08.size) (by omega) (by omega)).mono ?_
    rintro e w9 ⟨rfl, hbut⟩
    have hH : Hole (w.heap.size + 1) w2.heap.size w8 w9 := Hole.of_but hbut (by omega) (fun k e => by have := hxl.out k e; omega) (fun k e => by have h : g = k := (by simpa [Value.ownBlock] using e); omega)
    have hU9 := hH.snapAt hU8 (.inl (by omega))
    have hS9 := hH.snapAt hS8 (.inr (by omega))
    have hb09 := hb08.trans (hH.below.mono (by omega))
    have hc9 := hH.blk hc8 (.inl (by omega))
    have hp9 := hH.got hp8 (by omega)
    have hux9 := hH.own hux8 (by omega)
    have huy9 := hH.own huy8 (by omega)
    have hP9 := hH.pcs hPK.out (by omega)
    have hs9 : w8.heap.size ≤ w9.heap.size := hH.below.size
    have HC9 := Lib.hid hc9
    have HUX9 := Lib.hid hux9
    have HUY9 := Lib.hid huy9
    have HP9 := Lib.hid hp9
    have HPC9 := Lib.hid hP9
    clear hbut hU8 hS8 hb08 hc8 hp8 hux8 huy8 hH HX8 HG8 hPK q0 q1 q2 q3 s0 s1 s2 s3 hc9 hux9 huy9 hp9 hP9
    go_wp2_with fail
    refine (kept_any w3.heap.size A b c w.heap.size w9 HC9.out (hb.rd.below hb09) hbl).mono ?_
    rintro e w9' ⟨rfl, rfl⟩
    obtain ⟨s0, s1, s2, s3⟩ := id hS9
    go_wp2_with fail
    refine (rbytes_any i t Av Ad z l _ cv _ cd rfl rfl w9 ((hz.rd.below hb09).more hb09.size) ((hl.rd.below hb09).more hb09.size) hz.wf hzl (by omega)).mono ?_
    rintro e w10 ⟨q, rfl, hq10, hb10⟩
    obtain ⟨Aq, cq, rfl, -⟩ := bs_shape hq10
    have hs10 : w9.heap.size ≤ w10.heap.size := hb10.size
    have hU10 := hU9.below hb10 (by omega)
    have hS10 := hS9.below hb10 (by omega)
    have hb010 := hb09.trans (hb10.mono hb09.size)
    have HC10 := Lib.hid (LentAt.below HC9.out hb10 (by omega))
    have HUX10 := Lib.hid (Own.below HUX9.out hb10 (Nat.le_refl _))
    have HUY10 := Lib.hid (Own.below HUY9.out hb10 (Nat.le_refl _))
    have HP10 := Lib.hid (HP9.out.below hb10 (Nat.le_refl _))
    have HPC10 := Lib.hid (HPC9.out.below hb10 (Nat.le_refl _))
    have HQ10 := Lib.hid hq10
    clear hb10 hU9 hS9 hb09 HC9 HUX9 HUY9 HP9 HPC9 hq10 s0 s1 s2 s3
    go_wp2_with fail
    refine (rread_any A b _ c rfl w10 ((hb.rd.below hb010).more hb010.size) hb.le hbl (by have := hb.cap; omega)).mono ?_
    rintro e w11 ⟨v, rfl, hv11, hb11⟩
    obtain ⟨vx, vy, rfl, hvx, hvy, hvxy⟩ := hv11
    obtain ⟨Avx, cvx, rfl, -⟩ := is_shape hvx
    obtain ⟨Avy, cvy, rfl, -⟩ := bs_shape hvy
    clear hvxy
    have hs11 : w10.heap.size ≤ w11.heap.size := hb11.size
    have hU11 := hU10.below hb11 (by omega)
    have hS11 := hS10.below hb11 (by omega)
    have hb011 := hb010.trans (hb11.mono hb010.size)
    have HC11 := HC10.out.below hb11 (by have := HC10.out.lt; omega)
    have HUX11 := Own.below HUX10.out hb11 (Nat.le_refl _)
    have HUY11 := Own.below HUY10.out hb11 (Nat.le_refl _)
    have HP11 := HP10.out.below hb11 (Nat.le_refl _)
    have HPC11 := HPC10.out.below hb11 (Nat.le_refl _)
    have HQ11 := Own.below HQ10.out hb11 (Nat.le_refl _)
    clear hb11 hU10 hS10 hb010 HC10 HUX10 HUY10 HP10 HPC10 HQ10
    have hO : Below w11.heap.size w11 (w11.alloc (.cells #[.int .i64 (oI b), .int .i64 (oT b), .slice Avx (oZ b).length cvx, .slice Avy (oD b).length cvy] 59)) := (Below.refl _ w11).alloc (Nat.le_refl _) _
    have hsO2 : (w11.alloc (.cells #[.int .i64 (oI b), .int .i64 (oT b), .slice Avx (oZ b).length cvx, .slice Avy (oD b).length cvy] 59)).heap.size = w11.heap.size + 1 := by simp
    have hV12 := Lib.hid (snapAt_new w11 (oI b) (oT b) (.slice Avx (oZ b).length cvx) (.slice Avy (oD b).length cvy))
    have hU12 := Lib.hid (hU11.below hO (by omega))
    have hS12 := Lib.hid (hS11.below hO (by omega))
    have hb012 := Lib.hid (hb011.trans (hO.mono hb011.size))
    have HC12 := Lib.hid (HC11.below hO (by have := HC11.lt; omega))
    have HUX12 := Lib.hid (Own.below HUX11 hO (Nat.le_refl _))
    have HUY12 := Lib.hid (Own.below HUY11 hO (Nat.le_refl _))
    have HP12 := Lib.hid (HP11.below hO (Nat.le_refl _))
    have HPC12 := Lib.hid (HPC11.below hO (Nat.le_refl _))
    have HQ12 := Lib.hid (Own.below HQ11 hO (Nat.le_refl _))
    have HVX12 := Lib.hid (Own.below hvx hO (Nat.le_refl _))
    have HVY12 := Lib.hid (Own.below hvy hO (Nat.le_refl _))
    obtain ⟨s0, s1, s2, s3⟩ := id hS12.out
    clear hU11 hS11 hb011 HC11 HUX11 HUY11 HP11 HPC11 HQ11 hvx hvy
    go_wp2_with fail
    generalize hW12 : w11.alloc (.cells #[.int .i64 (oI b), .int .i64 (oT b), .slice Avx (oZ b).length cvx, .slice Avy (oD b).length cvy] 59) = w12 at hsO2 hV12 hU12 hS12 hb012 HC12 HUX12 HUY12 HP12 HPC12 HQ12 HVX12 HVY12 s0 s1 s2 s3 ⊢
    clear hW12 hO
    replace hsO2 : w11.heap.size + 1 ≤ w12.heap.size := Nat.le_of_eq hsO2.symm
    refine (rpieces_any i t Av Ad z l _ cv _ cd rfl rfl w12 ((hz.rd.below hb012.out).more hb012.out.size) ((hl.rd.below hb012.out).more hb012.out.size) hz.wf hzl (by omega)).mono ?_
    rintro e w13 ⟨Am, cm, rfl, hM13, hb13⟩
    have hs13 : w12.heap.size ≤ w13.heap.size := hb13.size
    have hV13 := hV12.out.below hb13 (by omega)
    have hU13 := hU12.out.below hb13 (by omega)
    have hb013 := hb012.out.trans (hb13.mono hb012.out.size)
    have HC13 := Lib.hid (HC12.out.below hb13 (by have := HC12.out.lt; omega))
    have HUX13 := Lib.hid (Own.below HUX12.out hb13 (Nat.le_refl _))
    have HUY13 := Lib.hid (Own.below HUY12.out hb13 (Nat.le_refl _))
    have HP13 := Lib.hid (HP12.out.below hb13 (Nat.le_refl _))
    have HPC13 := Lib.hid (HPC12.out.below hb13 (Nat.le_refl _))
    have HQ13 := Lib.hid (Own.below HQ12.out hb13 (Nat.le_refl _))
    have HVX13 := Lib.hid (Own.below HVX12.out hb13 (Nat.le_refl _))
    have HVY13 := Lib.hid (Own.below HVY12.out hb13 (Nat.le_refl _))
    have HM13 := Lib.hid hM13
    obtain ⟨a0, a1, a2, a3⟩ := hU13
    obtain ⟨b0, b1, b2, b3⟩ := hV13
    obtain ⟨hpr, _, hpc, _⟩ := HP13.out.rd
    have k1 := str_of cp hpr
    have k2 := str_of cq (own_rd HQ13.out)
    obtain ⟨Ap', cp', hp1, hp2, hp3⟩ := HPC13.out.pcRd
    obtain ⟨e1, e2, e3⟩ : Avp = Ap' ∧ xs.length = (chunksL (snapS i t z l)).length ∧ cvp = cp' := by injection hp1 with x1 x2 x3; exact ⟨x1, x2, x3⟩
    rw [← e1] at hp3
    have HXL := Lib.hid e2
    clear hp1 hp2 e1 e2 e3
    clear hb13 hV12 hU12 hS12 hb012 HC12 HUX12 HUY12 HP12 HPC12 HQ12 HVX12 HVY12 s0 s1 s2 s3 hM13 hpr
    go_wp2_with fail
    refine (snapSame_any (oI b) (oT b) (oZ b) (oD b) Aux Auy Avx Avy _ cux _ cuy _ cvx _ cvy w13.heap.size rfl rfl rfl rfl w13 (Nat.le_refl _) (own_rd HUX13.out) (own_rd HUY13.out) (own_rd HVX13.out) (own_rd HVY13.out) (by have := oZ_len b; omega)).mono ?_
    rintro e w14 ⟨rfl, hb14⟩
    have hs14 : w13.heap.size ≤ w14.heap.size := hb14.size
    have hb014 := hb013.trans (hb14.mono hb013.size)
    have HC14 := Lib.hid (HC13.out.below hb14 (by have := HC13.out.lt; omega))
    have HUY14 := Lib.hid (Own.below HUY13.out hb14 (Nat.le_refl _))
    have HP14 := Lib.hid (HP13.out.below hb14 (Nat.le_refl _))
    have HPC14 := Lib.hid (HPC13.out.below hb14 (Nat.le_refl _))
    have hp14 := Lib.hid (hp3.below hb14 (Nat.le_refl _))
    have hm14 := Lib.hid (HM13.out.below hb14 (Nat.le_refl _))
    have a3 : w14.cell? ⟨w6.heap.size, 3, none⟩ = some (.slice Auy (oD b).length cuy) := (hb14.cell (p := ⟨w6.heap.size, 3, none⟩) (by show w6.heap.size < _; omega)).trans a3
    clear hb14 hb013 HC13 HUX13 HUY13 HP13 HPC13 HQ13 HVX13 HVY13 HM13 hp3 a0 a1 a2 b0 b1 b2 b3 k1 k2
    go_wp2_with fail
    refine (sameP_any i t (chunksL (snapS i t z l)).length (chunksL (snapS i t z l)) Avp Am _ cvp _ cm w13.heap.size HXL.out rfl w14 (by rw [← HXL.out]; exact hp14.out) hm14.out (by omega) (by rw [chunksL_length]; omega)).mono ?_
    rintro e w15 ⟨rfl, hb15⟩
    have hs15 : w14.heap.size ≤ w15.heap.size := hb15.size
    have hb015 := Lib.hid (hb014.trans (hb15.mono hb014.size))
    have HC15 := Lib.hid (HC14.out.below hb15 (by have := HC14.out.lt; omega))
    have HUY15 := Lib.hid (Own.below HUY14.out hb15 (Nat.le_refl _))
    have HP15 := Lib.hid (HP14.out.below hb15 (Nat.le_refl _))
    have HPC15 := Lib.hid (HPC14.out.below hb15 (Nat.le_refl _))
    have a3 : w15.cell? ⟨w6.heap.size, 3, none⟩ = some (.slice Auy (oD b).length cuy) := (hb15.cell (p := ⟨w6.heap.size, 3, none⟩) (by show w6.heap.size < _; omega)).trans a3
    clear hb15 hb014 HC14 HUY14 HP14 HPC14 hp14 hm14
    have hww : w.heap.size ≤ w3.heap.size := by omega
    -- the rows whose owner writes over them
    have HOK : Hid (∀ v ∈ [Value.slice Ap (snapS i t z l).length cp, Value.slice (some ⟨w3.heap.size, 0, none⟩) b.length (b.length + 1), Value.slice Auy (oD b).length cuy] ++ xs, RowOk w15 w.heap.size v) := Lib.hid (by
      intro v hv
      rcases List.mem_append.1 hv with hv | hv
      · simp only [List.mem_cons, List.not_mem_nil, or_false] at hv
        rcases hv with rfl | rfl | rfl
        · exact HP15.out.row.mono (by omega)
        · exact RowOk.of_lent HC15.out (by omega) hbl
        · exact (RowOk.of_own HUY15.out).mono (by omega)
      · obtain ⟨j, hj, rfl⟩ := List.getElem_of_mem hv
        exact (HPC15.out.got j hj (by rw [← HPC15.out.len]; exact hj)).row.mono (by omega))
    have HAP : Hid (Apart ([Value.slice Ap (snapS i t z l).length cp, Value.slice (some ⟨w3.heap.size, 0, none⟩) b.length (b.length + 1), Value.slice Auy (oD b).length cuy] ++ xs)) := Lib.hid (Apart.append (apart_three (fun k h1 h2 => by
        have := HPL.out k h1
        have h3 : w3.heap.size = k := by simpa [Value.ownBlock] using h2
        omega) (fun k h1 h2 => by
        have := HPL.out k h1
        have := HUL.out k h2
        omega) (fun k h1 h2 => by
        have := HUL.out k h2
        have h3 : w3.heap.size = k := by simpa [Value.ownBlock] using h1
        omega)) HPC15.out.apart (by
        intro a ha y hy k h1 h2
        obtain ⟨j, hj, rfl⟩ := List.getElem_of_mem hy
        have hk := (HPC15.out.got j hj (by rw [← HPC15.out.len]; exact hj)).row.base k h2
        simp only [List.mem_cons, List.not_mem_nil, or_false] at ha
        rcases ha with rfl | rfl | rfl
        · have := HPL.out k h1
          omega
        · have h3 : w3.heap.size = k := by simpa [Value.ownBlock] using h1
          omega
        · have := HUL.out k h1
          omega))
    have HO0 := Lib.hid (own_litv w15 w15.heap.size 22 [Value.slice Ap (snapS i t z l).length cp, Value.slice (some ⟨w3.heap.size, 0, none⟩) b.length (b.length + 1), Value.slice Auy (oD b).length cuy] (Nat.le_refl _) (by simp [maxLen]))
    have hB0 := Lib.hid ((Below.refl w15.heap.size w15).alloc (Nat.le_refl _) (.cells [Value.slice Ap (snapS i t z l).length cp, Value.slice (some ⟨w3.heap.size, 0, none⟩) b.length (b.length + 1), Value.slice Auy (oD b).length cuy].toArray 22))
    clear HUY15 HP15 HC15
    go_wp2_with fail
    go_loopw [23, 24] (fun v n wr => ∃ k : Nat, k ≤ xs.length ∧ k ≤ 200 ∧ n = .int .i64 k ∧ Hid (Own wr w15.heap.size 22 v ([Value.slice Ap (snapS i t z l).length cp, Value.slice (some ⟨w3.heap.size, 0, none⟩) b.length (b.length + 1), Value.slice Auy (oD b).length cuy] ++ xs.take k)) ∧ Hid (Below w15.heap.size w15 wr)) (fun _ n _ => 200 - (intOf n).toNat)
    case atStart => exact ⟨0, by omega, by omega, rfl, by simpa using HO0, hB0⟩
    case round =>
      obtain ⟨k, hk, hk2, rfl, hO, hB⟩ := hrel
      clear a3
      by_cases hlt : k < xs.length ∧ k < 200
      · obtain ⟨hlt, hlt2⟩ := hlt
        have hltI : (k : Int) < xs.length := by omega
        have hltI2 : (k : Int) < 200 := by omega
        obtain ⟨gp, rfl, _, hgp⟩ := HVP.out (by omega)
        have hPr := HPC15.out.below hB.out (Nat.le_refl _)
        have hcell := hPr.bytes_at hlt
        obtain ⟨a, ck, hxk, -⟩ := (hPr.got k hlt (by rw [← hPr.len]; exact hlt)).shape
        obtain ⟨qn, hqn⟩ : ∃ qn, qn = ((chunksL (snapS i t z l))[k]'(by rw [← hPr.len]; exact hlt)).length := ⟨_, rfl⟩
        rw [← hqn] at hxk
        rw [hxk] at hcell
        have hT : [Value.slice Ap (snapS i t z l).length cp, Value.slice (some ⟨w3.heap.size, 0, none⟩) b.length (b.length + 1), Value.slice Auy (oD b).length cuy] ++ xs.take (k + 1) = ([Value.slice Ap (snapS i t z l).length cp, Value.slice (some ⟨w3.heap.size, 0, none⟩) b.length (b.length + 1), Value.slice Auy (oD b).length cuy] ++ xs.take k) ++ [.slice a qn ck] := by rw [List.take_succ_eq_append_getElem hlt, hxk, List.append_assoc]
        have HT := Lib.hid hT
        have hlv : ([Value.slice Ap (snapS i t z l).length cp, Value.slice (some ⟨w3.heap.size, 0, none⟩) b.length (b.length + 1), Value.slice Auy (oD b).length cuy] ++ xs.take k).length ≤ 203 := by simp; omega
        have hbs := hB.out.size
        clear hqn hxk hT hPr
        go_wp2_with (at_builtin; refine wpList_push2 (w := wr) rfl (.tmp 113) (.tmp 119) 34 rfl w15.heap.size 22 (.slice none 0 0) 24 Try.underlying34 info_bytes rfl u23 ([Value.slice Ap (snapS i t z l).length cp, Value.slice (some ⟨w3.heap.size, 0, none⟩) b.length (b.length + 1), Value.slice Auy (oD b).length cuy] ++ xs.take k) _ rfl rfl hO.out rfl rfl (by omega) (by omega) hbs ?_; intro v2 w2' hov2 hg2 hf2)
        have hO2 : Hid (Own w2' w15.heap.size 22 v2 ([Value.slice Ap (snapS i t z l).length cp, Value.slice (some ⟨w3.heap.size, 0, none⟩) b.length (b.length + 1), Value.slice Auy (oD b).length cuy] ++ xs.take (k + 1))) := Lib.hid (by rw [HT.out]; exact hov2)
        have hB2 : Hid (Below w15.heap.size w15 w2') := Lib.hid (hB.out.grown hg2 hbs (fun j hj => (hO.out.lt j hj).1))
        clear hov2 hg2 hf2 hlv
        go_wp2
        go_roundw
        case rel => exact ⟨k + 1, by omega, by omega, by go_num, hO2, hB2⟩
        case measure => simp [intOf]; omega
      · have hT := take3 (Value.slice Ap (snapS i t z l).length cp) (Value.slice (some ⟨w3.heap.size, 0, none⟩) b.length (b.length + 1)) (Value.slice Auy (oD b).length cuy) xs k
        obtain ⟨A', c', hv', hle', hcm', hrd⟩ := Own.shape hO.out
        have hok : ∀ v ∈ [Value.slice Ap (snapS i t z l).length cp, Value.slice (some ⟨w3.heap.size, 0, none⟩) b.length (b.length + 1), Value.slice Auy (oD b).length cuy] ++ xs.take k, RowOk wr w.heap.size v := fun v hv => (HOK.out v (by rw [← hT] at hv; exact List.mem_of_mem_take hv)).below hB.out (Nat.le_refl _)
        obtain ⟨n', hn'⟩ : ∃ n', n' = ([Value.slice Ap (snapS i t z l).length cp, Value.slice (some ⟨w3.heap.size, 0, none⟩) b.length (b.length + 1), Value.slice Auy (oD b).length cuy] ++ xs.take k).length := ⟨_, rfl⟩
        rw [← hn'] at hv'
        have hown := Lib.hid (owned_any A' ([Value.slice Ap (snapS i t z l).length cp, Value.slice (some ⟨w3.heap.size, 0, none⟩) b.length (b.length + 1), Value.slice Auy (oD b).length cuy] ++ xs.take k) n' c' wr.heap.size w.heap.size hn' wr hrd hok (by rw [← hT]; exact HAP.out.take _) (by
          intro ad had v hv he
          have h1 := (hO.out.lt ad.block (by rw [hv', had]; rfl)).1
          have h2 := (HOK.out v (by rw [← hT] at hv; exact List.mem_of_mem_take hv)).lt _ he
          omega) (by simp; omega))
        have HF : Hid (∀ w16, Others ([Value.slice Ap (snapS i t z l).length cp, Value.slice (some ⟨w3.heap.size, 0, none⟩) b.length (b.length + 1), Value.slice Auy (oD b).length cuy] ++ xs.take k) wr w16 → Below w.heap.size w w16) := Lib.hid fun w16 ho => (hb015.out.trans (hB.out.mono hb015.out.size)).trans (ho.below fun v hv => (hok v hv).base)
        clear hT hrd hok hO hle' hcm' hn'
        subst hv'
        rcases Nat.lt_or_ge k xs.length with h4 | h4
        · have h5 : ¬ (k : Int) < 200 := by omega
          have h6 : (k : Int) < xs.length := by omega
          clear hlt
          go_wp2_with fail
          refine hown.out.mono ?_
          rintro e w16 ⟨rfl, ho, _⟩
          have hfin := Lib.hid (HF.out w16 ho)
          clear ho hown HF
          go_wp2
          go_ret
          exact ⟨rfl, hfin.out⟩
        · have h6 : ¬ (k : Int) < xs.length := by omega
          clear hlt
          go_wp2_with fail
          refine hown.out.mono ?_
          rintro e w16 ⟨rfl, ho, _⟩
          have hfin := Lib.hid (HF.out w16 ho)
          clear ho hown HF
          go_wp2
          go_ret
          exact ⟨rfl, hfin.out⟩
end Go.Proofs.Ytelplpajpfkfiaa
