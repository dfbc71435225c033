/- A reader takes one of the past, and a timer (image.reader.one, timer). Condition: the reader is a call's own. -/
import Derived.Test.YtaadbklimfngiaaImageRd
set_option linter.unusedVariables false
namespace Go.Proofs.Ytaadbklimfngiaa
open Go.RowKit Oct

def PastRel (wr : Bool) (l : List UInt8) (p : PastD) (wr' : Bool) (l' : List UInt8) : Prop := (wr' = true → wr = true ∨ tkPast l = none) ∧ (wr' = false → wr = false ∧ tkPast l = some (p, l'))
def TimRel (wr : Bool) (l : List UInt8) (p : TimD) (wr' : Bool) (l' : List UInt8) : Prop := (wr' = true → wr = true ∨ tkTim l = none) ∧ (wr' = false → wr = false ∧ tkTim l = some (p, l'))
theorem past_rel {wr wr1 wr2 : Bool} {l l1 l2 : List UInt8} {n : Int} {z : List Int} (h1 : NumRel wr l n wr1 l1) (h2 : RowRel wr1 l1 z wr2 l2) : PastRel wr l ⟨n, z⟩ wr2 l2 := by
  refine ⟨fun h => ?_, fun h => ?_⟩
  · cases hw : wr1 with
    | true =>
      rcases h1.1 hw with h3 | h3
      · exact .inl h3
      · exact .inr (by unfold tkPast; rw [h3]; rfl)
    | false =>
      obtain ⟨h3, h4⟩ := h1.2 hw
      rcases h2.1 h with h5 | h5
      · rw [hw] at h5; cases h5
      · exact .inr (by unfold tkPast; rw [h4]; simp [h5])
  · obtain ⟨h3, h4⟩ := h2.2 h
    obtain ⟨h5, h6⟩ := h1.2 h3
    exact ⟨h5, by unfold tkPast; rw [h6]; simp [h4]⟩
theorem tim_rel {wr wr1 wr2 wr3 : Bool} {l l1 l2 l3 : List UInt8} {d n s : Int} (h1 : NumRel wr l d wr1 l1) (h2 : NumRel wr1 l1 n wr2 l2) (h3 : NumRel wr2 l2 s wr3 l3) : TimRel wr l ⟨d, n, s⟩ wr3 l3 := by
  refine ⟨fun h => ?_, fun h => ?_⟩
  · cases hw2 : wr2 with
    | true =>
      cases hw1 : wr1 with
      | true =>
        rcases h1.1 hw1 with h4 | h4
        · exact .inl h4
        · exact .inr (by unfold tkTim; rw [h4]; rfl)
      | false =>
        obtain ⟨_, h5⟩ := h1.2 hw1
        rcases h2.1 hw2 with h4 | h4
        · rw [hw1] at h4; cases h4
        · exact .inr (by unfold tkTim; rw [h5]; simp [h4])
    | false =>
      obtain ⟨h6, h5⟩ := h2.2 hw2
      obtain ⟨_, h7⟩ := h1.2 h6
      rcases h3.1 h with h4 | h4
      · rw [hw2] at h4; cases h4
      · exact .inr (by unfold tkTim; rw [h7]; simp [h5, h4])
  · obtain ⟨h4, h5⟩ := h3.2 h
    obtain ⟨h6, h7⟩ := h2.2 h4
    obtain ⟨h8, h9⟩ := h1.2 h6
    exact ⟨h8, by unfold tkTim; rw [h9]; simp [h7, h5]⟩
theorem blk3_at {w : World} {g : Nat} {t : TypeId} {a b c : Value} (h : Blk w g t #[a, b, c]) : w.cell? ⟨g, 0, none⟩ = some a ∧ w.cell? ⟨g, 1, none⟩ = some b ∧ w.cell? ⟨g, 2, none⟩ = some c ∧ w.frozen? ⟨g, 0, none⟩ = false ∧ w.frozen? ⟨g, 1, none⟩ = false ∧ w.frozen? ⟨g, 2, none⟩ = false :=
  ⟨h.cell 0, h.cell 1, h.cell 2, h.frozen 0, h.frozen 1, h.frozen 2⟩
theorem blk_addr {w : World} {g : Nat} {t : TypeId} {cs : List Value} (h : Blk w g t cs.toArray) (j : Nat) (u : Value) (hj : cs[j]? = some u) : w.cell? ((⟨g, 0, none⟩ : Addr).add j) = some u := by
  rw [lit_add, Nat.zero_add, Blk.cell h]
  simpa using hj
/-- The blocks of what a reader has read. -/
def RdrOwn (v1 v2 v3 : Value) (es : List PE) (v4 : Value) (q : Nat) : Prop := v1.ownBlock = some q ∨ v2.ownBlock = some q ∨ v3.ownBlock = some q ∨ v4.ownBlock = some q ∨ ∃ e ∈ es, e.2.ownBlock = some q
section
variable {w w' : World} {g : Nat} {A : Option Addr} {l : List UInt8} {c : Nat} {wr : Bool} {v1 : Value} {z1 : List Int} {v2 : Value} {z2 : List Int} {v3 : Value} {es : List PE} {v4 : Value} {ts : List TimD} {now : Int}
theorem RdrAt.lt (h : RdrAt w g A l c wr v1 z1 v2 z2 v3 es v4 ts now) : ∀ q, RdrOwn v1 v2 v3 es v4 q → g < q ∧ q < w.heap.size := by
  intro q hq
  rcases hq with hq | hq | hq | hq | ⟨e, he, hq⟩
  · have := World.ownsRow.lt h.act q hq; omega
  · have := World.ownsRow.lt h.nums q hq; omega
  · have := World.ownsRow.lt h.past.own q hq; omega
  · have := World.ownsRow.lt h.tms q hq; omega
  · have := World.ownsRow.lt (h.past.got e he) q hq; omega
theorem ne_own {v : Value} {row : Option Nat} (h : ∀ r, row = some r → v.ownBlock ≠ some r) : v.ownBlock = none ∨ v.ownBlock ≠ row := by
  cases hv : v.ownBlock with
  | none => exact .inl rfl
  | some q => exact .inr fun e => h q e.symm hv
/-- The reader stands, where another block is made or written. -/
theorem RdrAt.off (h : RdrAt w g A l c wr v1 z1 v2 z2 v3 es v4 ts now) {row : Option Nat} (hg : w.grownBy w' row) (hr : ∀ r, row = some r → g < r ∧ ¬ RdrOwn v1 v2 v3 es v4 r) : RdrAt w' g A l c wr v1 z1 v2 z2 v3 es v4 ts now := by
  have hgl := h.pl.blk.lt
  refine ⟨⟨h.pl.blk.grown hg (fun e => by have := (hr g e.symm).1; omega), h.pl.rd.keep fun p hp => World.cell?_of_block (hg.block p.block (by omega) (fun e => by have := (hr p.block e.symm).1; omega)), h.pl.le, h.pl.cap, h.pl.len⟩,
    World.ownsRow.kept h.act hg (ne_own fun r e hv => (hr r e).2 (.inl hv)), World.ownsRow.kept h.nums hg (ne_own fun r e hv => (hr r e).2 (.inr (.inl hv))), ⟨World.ownsRow.kept h.past.own hg (ne_own fun r e hv => (hr r e).2 (.inr (.inr (.inl hv)))), fun e he => World.ownsRow.kept (h.past.got e he) hg (ne_own fun r e' hv => (hr r e').2 (.inr (.inr (.inr (.inr ⟨e, he, hv⟩)))))⟩, World.ownsRow.kept h.tms hg (ne_own fun r e hv => (hr r e).2 (.inr (.inr (.inr (.inl hv)))))⟩
theorem own_type_ne {w : World} {b1 b2 : Nat} {e1 e2 : TypeId} {s1 s2 n1 n2 : Nat} {u v : Value} {x1 x2 : List Value} (h1 : w.ownsRow b1 e1 s1 u n1 x1) (h2 : w.ownsRow b2 e2 s2 v n2 x2) (he : e1 ≠ e2) : u.ownBlock = none ∨ u.ownBlock ≠ v.ownBlock := by
  cases hu : u.ownBlock with
  | none => exact .inl rfl
  | some q =>
    refine .inr fun e => ?_
    obtain ⟨cs, hc⟩ := ownsRow_held h1 hu
    obtain ⟨cs', hc'⟩ := ownsRow_held h2 e.symm
    rw [hc] at hc'
    injection hc' with hc'
    injection hc' with _ h _
    exact he h
/-- One more of the past. -/
theorem RdrAt.pushP {w1 w2 : World} {v' : Value} {p : PastD} {x : Value} (h : RdrAt w1 g A l c wr v1 z1 v2 z2 v3 es v4 ts now) (hx : Is w1 (g + 1) x p.z)
    (hown : w2.ownsRow (g + 1) 129 2 v' (es.length + 1) (es.flatMap pastC ++ [.int .i64 p.n, x])) (hg : w1.grownBy w2 v3.ownBlock) : RdrAt (w2.setCell ⟨g, 4, none⟩ v') g A l c wr v1 z1 v2 z2 v' (es ++ [(p, x)]) v4 ts now := by
  have hlt : ∀ q, v3.ownBlock = some q → g < q := fun q hq => (h.lt q (.inr (.inr (.inl hq)))).1
  have hgl := h.pl.blk.lt
  have hsc := grown_setCell w2 g 4 v'
  have k1 : Blk w2 g 143 _ := h.pl.blk.grown hg (fun e => by have := hlt g e.symm; omega)
  have k2 : Rd w2 g A (cells l) := h.pl.rd.keep fun q hq => World.cell?_of_block (hg.block q.block (by omega) (fun e => by have := hlt q.block e.symm; omega))
  have h1 : Is w2 (g + 1) v1 z1 := World.ownsRow.kept h.act hg (own_type_ne h.act h.past.own (by decide))
  have h2 : Is w2 (g + 1) v2 z2 := World.ownsRow.kept h.nums hg (own_type_ne h.nums h.past.own (by decide))
  have h3 : GotTims w2 (g + 1) v4 ts := World.ownsRow.kept h.tms hg (own_type_ne h.tms h.past.own (by decide))
  have h4 := GotPast.push (w := w1) h.past hx hown hg
  exact ⟨⟨Blk.set_ k1 4 _, k2.keep fun q hq => World.cell?_of_block (Below.heap_setCell w2 ⟨g, 4, none⟩ v' q.block (by show q.block ≠ g; omega)), h.pl.le, h.pl.cap, h.pl.len⟩, Own.far h1 hsc (by omega), Own.far h2 hsc (by omega), h4.far hsc (by omega), h3.far hsc (by omega)⟩
/-- One more timer. -/
theorem RdrAt.pushT {w1 w2 : World} {v' : Value} {p : TimD} (h : RdrAt w1 g A l c wr v1 z1 v2 z2 v3 es v4 ts now)
    (hown : w2.ownsRow (g + 1) 136 3 v' (ts.length + 1) (ts.flatMap timC ++ [.int .i64 p.d, .int .i64 p.n, .int .i64 p.s])) (hg : w1.grownBy w2 v4.ownBlock) : RdrAt (w2.setCell ⟨g, 5, none⟩ v') g A l c wr v1 z1 v2 z2 v3 es v' (ts ++ [p]) now := by
  have hlt : ∀ q, v4.ownBlock = some q → g < q := fun q hq => (h.lt q (.inr (.inr (.inr (.inl hq))))).1
  have hgl := h.pl.blk.lt
  have hsc := grown_setCell w2 g 5 v'
  have k1 : Blk w2 g 143 _ := h.pl.blk.grown hg (fun e => by have := hlt g e.symm; omega)
  have k2 : Rd w2 g A (cells l) := h.pl.rd.keep fun q hq => World.cell?_of_block (hg.block q.block (by omega) (fun e => by have := hlt q.block e.symm; omega))
  have h1 : Is w2 (g + 1) v1 z1 := World.ownsRow.kept h.act hg (own_type_ne h.act h.tms (by decide))
  have h2 : Is w2 (g + 1) v2 z2 := World.ownsRow.kept h.nums hg (own_type_ne h.nums h.tms (by decide))
  have h3 : GotPast w2 (g + 1) v3 es := ⟨World.ownsRow.kept h.past.own hg (own_type_ne h.past.own h.tms (by decide)), fun e he => World.ownsRow.kept (h.past.got e he) hg (own_type_ne (h.past.got e he) h.tms (by decide))⟩
  have h4 : GotTims w2 (g + 1) v' (ts ++ [p]) := by
    unfold GotTims
    rw [flat_snoc, List.length_append]
    exact hown
  exact ⟨⟨Blk.set_ k1 5 _, k2.keep fun q hq => World.cell?_of_block (Below.heap_setCell w2 ⟨g, 5, none⟩ v' q.block (by show q.block ≠ g; omega)), h.pl.le, h.pl.cap, h.pl.len⟩, Own.far h1 hsc (by omega), Own.far h2 hsc (by omega), h3.far hsc (by omega), h4.far hsc (by omega)⟩
end


set_option maxHeartbeats 2000000 in
set_option maxRecDepth 100000 in
theorem rone_any (w : World) (g : Nat) (A : Option Addr) (l : List UInt8) (c : Nat) (wr : Bool) (v1 : Value) (z1 : List Int) (v2 : Value) (z2 : List Int) (v3 : Value) (es : List PE) (v4 : Value) (ts : List TimD) (now : Int) (hR : RdrAt w g A l c wr v1 z1 v2 z2 v3 es v4 ts now) (hes : es.length ≤ 100000) :
    Calls Try.prog 101 #[.pointer (some ⟨g, 0, none⟩)] w fun e w' => ∃ p x v A' l' c' wr', e = .returned (.tuple #[]) ∧ RdrAt w' g A' l' c' wr' v1 z1 v2 z2 v (es ++ [(p, x)]) v4 ts now ∧ Below g w w' ∧ PastRel wr l p wr' l' := by
  have hgl : g < w.heap.size := hR.pl.blk.lt
  have hnum := Lib.hid (rnum_any w g A l c wr v1 z1 v2 z2 v3 es v4 ts now hR)
  clear hR
  go_enter Try.func101, Try.ntmps101
  go_wp2_with fail
  refine hnum.out.mono ?_
  clear hnum
  rintro e w1 ⟨n1, A1, l1, c1, wr1, rfl, hR1, hg1, hrel1⟩
  have hs1 : w.heap.size ≤ w1.heap.size := hg1.size
  have hbA := (Below.refl w1.heap.size w1).alloc (Nat.le_refl _) (.cells #[.int .i64 n1, .slice none 0 0] 129)
  have HB2 := Lib.hid (((Below.refl g w).grown hg1 (Nat.le_of_lt hgl) (fun j hj => by injection hj with hj; omega)).trans (hbA.mono (by omega)))
  have HLT := Lib.hid hR1.lt
  have HR2 := Lib.hid (hR1.off (grown_of_below hbA none) (fun r hr => by cases hr))
  have HK2 := Lib.hid (Blk.new w1 129 #[.int .i64 n1, .slice none 0 0])
  have hs2 : w1.heap.size + 1 ≤ (w1.alloc (.cells #[.int .i64 n1, .slice none 0 0] 129)).heap.size := by simp
  have HREL1 := Lib.hid hrel1
  clear hR1 hg1 hrel1 hbA
  go_upto_region 1 with fail
  generalize w1.alloc (.cells #[.int .i64 n1, .slice none 0 0] 129) = w2 at HB2 HR2 HK2 hs2 ⊢
  obtain ⟨bt, hbt⟩ : ∃ b, b = w1.heap.size := ⟨_, rfl⟩
  rw [← hbt] at HK2 HLT hs2 ⊢
  have hgb : g < bt := by omega
  clear hbt
  have hcall := Lib.hid (rrow_any w2 g A1 l1 c1 wr1 v1 z1 v2 z2 v3 es v4 ts now HR2.out)
  go_wp2_with fail
  refine hcall.out.mono ?_
  clear hcall
  rintro e w3 ⟨x, z, A3, l3, c3, wr3, rfl, hx, hR3, hg3, hrel3⟩
  obtain ⟨Ax, cx, rfl, -, -, -⟩ := is_shape hx
  have HREL := Lib.hid (past_rel HREL1.out hrel3)
  have hs3 : w2.heap.size ≤ w3.heap.size := hg3.size
  have hK3 := HK2.out.grown hg3 (fun e => by injection e with e; omega)
  obtain ⟨k0, k1, f0, f1⟩ := blk2_at hK3
  have hgs3 := grown_setCell w3 bt 1 (.slice Ax z.length cx)
  have HR3' := Lib.hid (hR3.off hgs3 (fun r hr => by
    injection hr with hr
    subst hr
    exact ⟨hgb, fun h => by have := (HLT.out _ h).2; omega⟩))
  have HK3 := Lib.hid (show Blk (w3.setCell ⟨bt, 1, none⟩ (.slice Ax z.length cx)) bt 129 #[.int .i64 n1, .slice Ax z.length cx] from Blk.set_ hK3 1 _)
  have HB3 := Lib.hid ((HB2.out.grown hg3 (by omega) (fun j hj => by injection hj with hj; omega)).setCell (p := ⟨bt, 1, none⟩) (Nat.le_of_lt hgb) (.slice Ax z.length cx))
  have HX3 := Lib.hid (Own.mono (Own.far hx hgs3 (by omega)) (by omega : g + 1 ≤ w2.heap.size))
  have hs3' : w3.heap.size ≤ (w3.setCell ⟨bt, 1, none⟩ (.slice Ax z.length cx)).heap.size := hgs3.size
  clear hR3 hg3 hrel3 hK3 hgs3 HR2 HK2 HB2 hx
  go_upto_region 2 with fail
  clear k0 k1 f0 f1
  generalize w3.setCell ⟨bt, 1, none⟩ (.slice Ax z.length cx) = w3a at HR3' HK3 HB3 hs3' HX3 ⊢
  have HR3a := HR3'
  have HK3a := HK3
  have HB3a := HB3
  clear HR3' HK3 HB3
  have HR3 := HR3a
  have HK3 := HK3a
  have HB3 := HB3a
  clear HR3a HK3a HB3a
  obtain ⟨w3, hw3⟩ : ∃ u, u = w3a := ⟨_, rfl⟩
  subst hw3
  obtain ⟨⟨_, _, _, _, c4', c5', _⟩, ⟨_, _, _, _, d4', d5', _⟩⟩ := blk7_at HR3.out.pl.blk
  obtain ⟨k0, k1, _, _⟩ := blk2_at HK3.out
  refine wp_region_heldT 12 (by kernel_rfl) (S := fun W => W.cell? ⟨g, 4, none⟩ = some v3 ∧ W.cell? ⟨bt, 0, none⟩ = some (.int .i64 n1) ∧ W.cell? ⟨bt, 1, none⟩ = some (.slice Ax z.length cx) ∧ True) ⟨c4', k0, k1, trivial⟩ (fun hHeld => ?_)
  refine heldT_take 0 (v := ?_) (by simp) (by kernel_rfl) (by kernel_rfl) (by kernel_rfl) (by kernel_rfl) (fun _ _ _ h => h) (Or.inl ⟨by rfl, ?_⟩) hHeld ?_
  case refine_2 => (intro w hSw; (try dsimp only at hSw); (try (obtain ⟨s0, s1, s2, s3⟩ := hSw)); simp only [List.getElem_cons_zero]; go_simp <;> with_reducible rfl)
  simp only [List.getElem_cons_zero, Act.put, List.setIfInBounds_toArray, List.set_cons_zero, List.set_cons_succ]
  refine heldT_take 1 (v := ?_) (by simp) (by kernel_rfl) (by kernel_rfl) (by kernel_rfl) (by kernel_rfl) (fun _ _ _ h => h) (Or.inl ⟨by rfl, ?_⟩) hHeld ?_
  case refine_2 => (intro w hSw; (try dsimp only at hSw); (try (obtain ⟨s0, s1, s2, s3⟩ := hSw)); simp only [List.getElem_cons_zero, List.getElem_cons_succ]; go_simp <;> with_reducible rfl)
  simp only [List.getElem_cons_zero, List.getElem_cons_succ, Act.put, List.setIfInBounds_toArray, List.set_cons_zero, List.set_cons_succ]
  refine heldT_take 2 (v := ?_) (by simp) (by kernel_rfl) (by kernel_rfl) (by kernel_rfl) (by kernel_rfl) (fun _ _ _ h => h) (Or.inl ⟨by rfl, ?_⟩) hHeld ?_
  case refine_2 => (intro w hSw; (try dsimp only at hSw); (try (obtain ⟨s0, s1, s2, s3⟩ := hSw)); simp only [List.getElem_cons_zero, List.getElem_cons_succ]; go_simp <;> with_reducible rfl)
  simp only [List.getElem_cons_zero, List.getElem_cons_succ, Act.put, List.setIfInBounds_toArray, List.set_cons_zero, List.set_cons_succ]
  refine heldT_take 3 (v := ?_) (by simp) (by kernel_rfl) (by kernel_rfl) (by kernel_rfl) (by kernel_rfl) (fun _ _ _ h => h) (Or.inl ⟨by rfl, ?_⟩) hHeld ?_
  case refine_2 => (intro w hSw; (try dsimp only at hSw); (try (obtain ⟨s0, s1, s2, s3⟩ := hSw)); simp only [List.getElem_cons_zero, List.getElem_cons_succ]; go_simp <;> with_reducible rfl)
  simp only [List.getElem_cons_zero, List.getElem_cons_succ, Act.put, List.setIfInBounds_toArray, List.set_cons_zero, List.set_cons_succ]
  refine heldT_take 4 (v := ?_) (by simp) (by kernel_rfl) (by kernel_rfl) (by kernel_rfl) (by kernel_rfl) (fun _ _ _ h => h) (Or.inl ⟨by rfl, ?_⟩) hHeld ?_
  case refine_2 => (intro w hSw; (try dsimp only at hSw); (try (obtain ⟨s0, s1, s2, s3⟩ := hSw)); simp only [List.getElem_cons_zero, List.getElem_cons_succ]; go_simp <;> with_reducible rfl)
  simp only [List.getElem_cons_zero, List.getElem_cons_succ, Act.put, List.setIfInBounds_toArray, List.set_cons_zero, List.set_cons_succ]
  refine heldT_take 5 (v := ?_) (by simp) (by kernel_rfl) (by kernel_rfl) (by kernel_rfl) (by kernel_rfl) (fun _ _ _ h => h) (Or.inl ⟨by rfl, ?_⟩) hHeld ?_
  case refine_2 => (intro w hSw; (try dsimp only at hSw); (try (obtain ⟨s0, s1, s2, s3⟩ := hSw)); simp only [List.getElem_cons_zero, List.getElem_cons_succ]; go_simp <;> with_reducible rfl)
  simp only [List.getElem_cons_zero, List.getElem_cons_succ, Act.put, List.setIfInBounds_toArray, List.set_cons_zero, List.set_cons_succ]
  refine heldT_take 6 (v := ?_) (by simp) (by kernel_rfl) (by kernel_rfl) (by kernel_rfl) (by kernel_rfl) (fun _ _ _ h => h) (Or.inl ⟨by rfl, ?_⟩) hHeld ?_
  case refine_2 => (intro w hSw; (try dsimp only at hSw); (try (obtain ⟨s0, s1, s2, s3⟩ := hSw)); simp only [List.getElem_cons_zero, List.getElem_cons_succ]; go_simp <;> with_reducible rfl)
  simp only [List.getElem_cons_zero, List.getElem_cons_succ, Act.put, List.setIfInBounds_toArray, List.set_cons_zero, List.set_cons_succ]
  refine heldT_sole 7 (by simp) (by kernel_rfl) (fun K hK => ?_)
  simp only [List.getElem_cons_zero, List.getElem_cons_succ]
  go_simp
  have hbA : Below w3.heap.size w3 (w3.alloc (.cells [.int .i64 n1, .slice Ax z.length cx].toArray 129)).drew := ((Below.refl _ w3).alloc (Nat.le_refl _) _).drew
  have hKA : Blk (w3.alloc (.cells [.int .i64 n1, .slice Ax z.length cx].toArray 129)).drew w3.heap.size 129 [.int .i64 n1, .slice Ax z.length cx].toArray := Blk.new w3 129 _
  have hRA := HR3.out.off (grown_of_below hbA none) (fun r hr => by cases hr)
  have hBA := HB3.out.trans (hbA.mono (by omega))
  have hKB := HK3.out.below hbA HK3.out.lt
  have hXA := Own.below HX3.out hbA (Nat.le_refl _)
  generalize (w3.alloc (.cells [.int .i64 n1, .slice Ax z.length cx].toArray 129)).drew = WA at hKA hRA hBA hKB hXA ⊢
  obtain ⟨⟨_, _, _, _, c4', c5', _⟩, ⟨_, _, _, _, d4', d5', _⟩⟩ := blk7_at hRA.pl.blk
  obtain ⟨k0, k1, _, _⟩ := blk2_at hKB
  refine hK.out _ _ ⟨c4', k0, k1, trivial⟩ (fun hHeld => ?_)
  clear hK K
  try simp only [Act.put, List.setIfInBounds_toArray, List.set_cons_zero, List.set_cons_succ]
  refine heldT_sole 8 (by simp) (by kernel_rfl) (fun K hK => ?_)
  simp only [List.getElem_cons_zero, List.getElem_cons_succ]
  rw [if_pos (by rfl)]
  refine wp_append_size (.tmp 14) (.tmp 16) 84 rfl (g + 1) 129 (.agg #[.int .i64 0, .slice none 0 0]) 2 32 Try.underlying84 info_past rfl (by decide) _ es.length _ rfl hRA.past.own ⟨w3.heap.size, 0, none⟩ 1 1 [.int .i64 n1, .slice Ax z.length cx] rfl rfl (blk_addr hKA) (by simp [Value.oneCell']) (by unfold maxLen; omega) (by omega) (by have := hRA.pl.blk.lt; omega) ?_
  intro v5 w5 hown5 hg5 hf5
  obtain ⟨A5, c5, rfl, -, -, -⟩ := own_row_shape hown5
  have hlt5 : ∀ q, v3.ownBlock = some q → g < q ∧ q < bt := fun q hq => by have h1 := HLT.out q (.inr (.inr (.inl hq))); omega
  have hKR5 : Blk w5 g 143 _ := hRA.pl.blk.grown hg5 (fun e => by have := hlt5 g e.symm; omega)
  have hKT5 := hKB.grown hg5 (fun e => by have := hlt5 bt e.symm; omega)
  obtain ⟨⟨_, _, _, _, c4', c5', _⟩, ⟨_, _, _, _, d4', d5', _⟩⟩ := blk7_at hKR5
  obtain ⟨k0, k1, _, _⟩ := blk2_at hKT5
  have HFIN := Lib.hid (And.intro (hRA.pushP (p := ⟨n1, z⟩) hXA hown5 hg5) ((hBA.grown hg5 (by have := hRA.pl.blk.lt; omega) (fun j hj => by have := hlt5 j hj; omega)).setCell (p := ⟨g, 4, none⟩) (Nat.le_refl _) (.slice A5 (es.length + 1) c5)))
  clear hown5 hg5 hf5 hKR5 hKT5 hRA hBA hKB hKA
  refine hK.out _ _ ⟨c4', k0, k1, trivial⟩ (fun hHeld => ?_)
  clear hK K
  try simp only [Act.put, List.setIfInBounds_toArray, List.set_cons_zero, List.set_cons_succ]
  refine heldT_sole 9 (by simp) (by kernel_rfl) (fun K hK => ?_)
  simp only [List.getElem_cons_zero, List.getElem_cons_succ]
  go_simp
  refine hK.out _ _ ⟨c4', k0, k1, trivial⟩ (fun hHeld => ?_)
  clear hK K
  try simp only [Act.put, List.setIfInBounds_toArray, List.set_cons_zero, List.set_cons_succ]
  refine heldT_sole 10 (by simp) (by kernel_rfl) (fun K hK => ?_)
  simp only [List.getElem_cons_zero, List.getElem_cons_succ]
  go_simp
  refine hK.out _ _ ⟨c4', k0, k1, trivial⟩ (fun hHeld => ?_)
  clear hK K
  try simp only [Act.put, List.setIfInBounds_toArray, List.set_cons_zero, List.set_cons_succ]
  refine heldT_sole 11 (by simp) (by kernel_rfl) (fun K hK => ?_)
  simp only [List.getElem_cons_zero, List.getElem_cons_succ]
  go_simp
  refine hK.out _ _ ⟨c4', k0, k1, trivial⟩ (fun hHeld => ?_)
  clear hK K
  try simp only [Act.put, List.setIfInBounds_toArray, List.set_cons_zero, List.set_cons_succ]
  refine heldT_last (t := 12) (by simp) (by kernel_rfl) (by kernel_rfl) (fun K hK => ?_)
  simp only [List.getElem_cons_zero, List.getElem_cons_succ]
  go_simp
  refine hK.out _ _ ?_
  clear hK K hHeld
  go_wp2
  go_end0
  exact ⟨_, _, _, _, _, _, _, rfl, HFIN.out.1, HFIN.out.2, HREL.out⟩

set_option maxHeartbeats 2000000 in
set_option maxRecDepth 100000 in
theorem rtimer_any (w : World) (g : Nat) (A : Option Addr) (l : List UInt8) (c : Nat) (wr : Bool) (v1 : Value) (z1 : List Int) (v2 : Value) (z2 : List Int) (v3 : Value) (es : List PE) (v4 : Value) (ts : List TimD) (now : Int) (hR : RdrAt w g A l c wr v1 z1 v2 z2 v3 es v4 ts now) (hes : ts.length ≤ 100000) :
    Calls Try.prog 102 #[.pointer (some ⟨g, 0, none⟩)] w fun e w' => ∃ p v A' l' c' wr', e = .returned (.tuple #[]) ∧ RdrAt w' g A' l' c' wr' v1 z1 v2 z2 v3 es v (ts ++ [p]) now ∧ Below g w w' ∧ TimRel wr l p wr' l' := by
  have hgl : g < w.heap.size := hR.pl.blk.lt
  have hnum := Lib.hid (rnum_any w g A l c wr v1 z1 v2 z2 v3 es v4 ts now hR)
  clear hR
  go_enter Try.func102, Try.ntmps102
  go_wp2_with fail
  refine hnum.out.mono ?_
  clear hnum
  rintro e w1 ⟨n1, A1, l1, c1, wr1, rfl, hR1, hg1, hrel1⟩
  have hs1 : w.heap.size ≤ w1.heap.size := hg1.size
  have hbA := (Below.refl w1.heap.size w1).alloc (Nat.le_refl _) (.cells #[.int .i64 n1, .int .i64 0, .int .i64 0] 136)
  have HB2 := Lib.hid (((Below.refl g w).grown hg1 (Nat.le_of_lt hgl) (fun j hj => by injection hj with hj; omega)).trans (hbA.mono (by omega)))
  have HLT := Lib.hid hR1.lt
  have HR2 := Lib.hid (hR1.off (grown_of_below hbA none) (fun r hr => by cases hr))
  have HK2 := Lib.hid (Blk.new w1 136 #[.int .i64 n1, .int .i64 0, .int .i64 0])
  have hs2 : w1.heap.size + 1 ≤ (w1.alloc (.cells #[.int .i64 n1, .int .i64 0, .int .i64 0] 136)).heap.size := by simp
  have HREL1 := Lib.hid hrel1
  clear hR1 hg1 hrel1 hbA
  go_upto_region 1 with fail
  generalize w1.alloc (.cells #[.int .i64 n1, .int .i64 0, .int .i64 0] 136) = w2 at HB2 HR2 HK2 hs2 ⊢
  obtain ⟨bt, hbt⟩ : ∃ b, b = w1.heap.size := ⟨_, rfl⟩
  rw [← hbt] at HK2 HLT hs2 ⊢
  have hgb : g < bt := by omega
  clear hbt
  have hcall := Lib.hid (rnum_any w2 g A1 l1 c1 wr1 v1 z1 v2 z2 v3 es v4 ts now HR2.out)
  go_wp2_with fail
  refine hcall.out.mono ?_
  clear hcall
  rintro e w3 ⟨n2, A3, l3, c3, wr3, rfl, hR3, hg3, hrel3⟩
  have HREL2 := Lib.hid hrel3
  have hs3 : w2.heap.size ≤ w3.heap.size := hg3.size
  have hK3 := HK2.out.grown hg3 (fun e => by injection e with e; omega)
  obtain ⟨k0, k1, k2, f0, f1, f2⟩ := blk3_at hK3
  have hgs3 := grown_setCell w3 bt 1 (.int .i64 n2)
  have HR3' := Lib.hid (hR3.off hgs3 (fun r hr => by
    injection hr with hr
    subst hr
    exact ⟨hgb, fun h => by have := (HLT.out _ h).2; omega⟩))
  have HK3 := Lib.hid (show Blk (w3.setCell ⟨bt, 1, none⟩ (.int .i64 n2)) bt 136 #[.int .i64 n1, .int .i64 n2, .int .i64 0] from Blk.set_ hK3 1 _)
  have HB3 := Lib.hid ((HB2.out.grown hg3 (by omega) (fun j hj => by injection hj with hj; omega)).setCell (p := ⟨bt, 1, none⟩) (Nat.le_of_lt hgb) (.int .i64 n2))
  have hs3' : w3.heap.size ≤ (w3.setCell ⟨bt, 1, none⟩ (.int .i64 n2)).heap.size := hgs3.size
  clear hR3 hg3 hrel3 hK3 hgs3 HR2 HK2 HB2
  go_upto_region 2 with fail
  clear k0 k1 k2 f0 f1 f2
  generalize w3.setCell ⟨bt, 1, none⟩ (.int .i64 n2) = w3a at HR3' HK3 HB3 hs3' ⊢
  have HR3a := HR3'
  have HK3a := HK3
  have HB3a := HB3
  clear HR3' HK3 HB3
  have HR3 := HR3a
  have HK3 := HK3a
  have HB3 := HB3a
  clear HR3a HK3a HB3a
  obtain ⟨w3, hw3⟩ : ∃ u, u = w3a := ⟨_, rfl⟩
  subst hw3
  have hcall := Lib.hid (rnum_any w3 g A3 l3 c3 wr3 v1 z1 v2 z2 v3 es v4 ts now HR3.out)
  go_wp2_with fail
  refine hcall.out.mono ?_
  clear hcall
  rintro e w4 ⟨n3, A4, l4, c4, wr4, rfl, hR4, hg4, hrel4⟩
  have HREL3 := Lib.hid hrel4
  have hs4 : w3.heap.size ≤ w4.heap.size := hg4.size
  have hK4 := HK3.out.grown hg4 (fun e => by injection e with e; omega)
  obtain ⟨k0, k1, k2, f0, f1, f2⟩ := blk3_at hK4
  have hgs4 := grown_setCell w4 bt 2 (.int .i64 n3)
  have HR4' := Lib.hid (hR4.off hgs4 (fun r hr => by
    injection hr with hr
    subst hr
    exact ⟨hgb, fun h => by have := (HLT.out _ h).2; omega⟩))
  have HK4 := Lib.hid (show Blk (w4.setCell ⟨bt, 2, none⟩ (.int .i64 n3)) bt 136 #[.int .i64 n1, .int .i64 n2, .int .i64 n3] from Blk.set_ hK4 2 _)
  have HB4 := Lib.hid ((HB3.out.grown hg4 (by omega) (fun j hj => by injection hj with hj; omega)).setCell (p := ⟨bt, 2, none⟩) (Nat.le_of_lt hgb) (.int .i64 n3))
  have hs4' : w4.heap.size ≤ (w4.setCell ⟨bt, 2, none⟩ (.int .i64 n3)).heap.size := hgs4.size
  clear hR4 hg4 hrel4 hK4 hgs4 HR3 HK3 HB3
  go_upto_region 3 with fail
  clear k0 k1 k2 f0 f1 f2
  generalize w4.setCell ⟨bt, 2, none⟩ (.int .i64 n3) = w4a at HR4' HK4 HB4 hs4' ⊢
  have HR4a := HR4'
  have HK4a := HK4
  have HB4a := HB4
  clear HR4' HK4 HB4
  have HR4 := HR4a
  have HK4 := HK4a
  have HB4 := HB4a
  clear HR4a HK4a HB4a
  obtain ⟨w4, hw4⟩ : ∃ u, u = w4a := ⟨_, rfl⟩
  subst hw4
  have HREL := Lib.hid (tim_rel HREL1.out HREL2.out HREL3.out)
  obtain ⟨⟨_, _, _, _, c4', c5', _⟩, ⟨_, _, _, _, d4', d5', _⟩⟩ := blk7_at HR4.out.pl.blk
  obtain ⟨k0, k1, k2, _, _, _⟩ := blk3_at HK4.out
  refine wp_region_heldT 12 (by kernel_rfl) (S := fun W => W.cell? ⟨g, 5, none⟩ = some v4 ∧ W.cell? ⟨bt, 0, none⟩ = some (.int .i64 n1) ∧ W.cell? ⟨bt, 1, none⟩ = some (.int .i64 n2) ∧ W.cell? ⟨bt, 2, none⟩ = some (.int .i64 n3)) ⟨c5', k0, k1, k2⟩ (fun hHeld => ?_)
  refine heldT_take 0 (v := ?_) (by simp) (by kernel_rfl) (by kernel_rfl) (by kernel_rfl) (by kernel_rfl) (fun _ _ _ h => h) (Or.inl ⟨by rfl, ?_⟩) hHeld ?_
  case refine_2 => (intro w hSw; (try dsimp only at hSw); (try (obtain ⟨s0, s1, s2, s3⟩ := hSw)); simp only [List.getElem_cons_zero]; go_simp <;> with_reducible rfl)
  simp only [List.getElem_cons_zero, Act.put, List.setIfInBounds_toArray, List.set_cons_zero, List.set_cons_succ]
  refine heldT_take 1 (v := ?_) (by simp) (by kernel_rfl) (by kernel_rfl) (by kernel_rfl) (by kernel_rfl) (fun _ _ _ h => h) (Or.inl ⟨by rfl, ?_⟩) hHeld ?_
  case refine_2 => (intro w hSw; (try dsimp only at hSw); (try (obtain ⟨s0, s1, s2, s3⟩ := hSw)); simp only [List.getElem_cons_zero, List.getElem_cons_succ]; go_simp <;> with_reducible rfl)
  simp only [List.getElem_cons_zero, List.getElem_cons_succ, Act.put, List.setIfInBounds_toArray, List.set_cons_zero, List.set_cons_succ]
  refine heldT_take 2 (v := ?_) (by simp) (by kernel_rfl) (by kernel_rfl) (by kernel_rfl) (by kernel_rfl) (fun _ _ _ h => h) (Or.inl ⟨by rfl, ?_⟩) hHeld ?_
  case refine_2 => (intro w hSw; (try dsimp only at hSw); (try (obtain ⟨s0, s1, s2, s3⟩ := hSw)); simp only [List.getElem_cons_zero, List.getElem_cons_succ]; go_simp <;> with_reducible rfl)
  simp only [List.getElem_cons_zero, List.getElem_cons_succ, Act.put, List.setIfInBounds_toArray, List.set_cons_zero, List.set_cons_succ]
  refine heldT_take 3 (v := ?_) (by simp) (by kernel_rfl) (by kernel_rfl) (by kernel_rfl) (by kernel_rfl) (fun _ _ _ h => h) (Or.inl ⟨by rfl, ?_⟩) hHeld ?_
  case refine_2 => (intro w hSw; (try dsimp only at hSw); (try (obtain ⟨s0, s1, s2, s3⟩ := hSw)); simp only [List.getElem_cons_zero, List.getElem_cons_succ]; go_simp <;> with_reducible rfl)
  simp only [List.getElem_cons_zero, List.getElem_cons_succ, Act.put, List.setIfInBounds_toArray, List.set_cons_zero, List.set_cons_succ]
  refine heldT_take 4 (v := ?_) (by simp) (by kernel_rfl) (by kernel_rfl) (by kernel_rfl) (by kernel_rfl) (fun _ _ _ h => h) (Or.inl ⟨by rfl, ?_⟩) hHeld ?_
  case refine_2 => (intro w hSw; (try dsimp only at hSw); (try (obtain ⟨s0, s1, s2, s3⟩ := hSw)); simp only [List.getElem_cons_zero, List.getElem_cons_succ]; go_simp <;> with_reducible rfl)
  simp only [List.getElem_cons_zero, List.getElem_cons_succ, Act.put, List.setIfInBounds_toArray, List.set_cons_zero, List.set_cons_succ]
  refine heldT_take 5 (v := ?_) (by simp) (by kernel_rfl) (by kernel_rfl) (by kernel_rfl) (by kernel_rfl) (fun _ _ _ h => h) (Or.inl ⟨by rfl, ?_⟩) hHeld ?_
  case refine_2 => (intro w hSw; (try dsimp only at hSw); (try (obtain ⟨s0, s1, s2, s3⟩ := hSw)); simp only [List.getElem_cons_zero, List.getElem_cons_succ]; go_simp <;> with_reducible rfl)
  simp only [List.getElem_cons_zero, List.getElem_cons_succ, Act.put, List.setIfInBounds_toArray, List.set_cons_zero, List.set_cons_succ]
  refine heldT_take 6 (v := ?_) (by simp) (by kernel_rfl) (by kernel_rfl) (by kernel_rfl) (by kernel_rfl) (fun _ _ _ h => h) (Or.inl ⟨by rfl, ?_⟩) hHeld ?_
  case refine_2 => (intro w hSw; (try dsimp only at hSw); (try (obtain ⟨s0, s1, s2, s3⟩ := hSw)); simp only [List.getElem_cons_zero, List.getElem_cons_succ]; go_simp <;> with_reducible rfl)
  simp only [List.getElem_cons_zero, List.getElem_cons_succ, Act.put, List.setIfInBounds_toArray, List.set_cons_zero, List.set_cons_succ]
  refine heldT_sole 7 (by simp) (by kernel_rfl) (fun K hK => ?_)
  simp only [List.getElem_cons_zero, List.getElem_cons_succ]
  go_simp
  have hbA : Below w4.heap.size w4 (w4.alloc (.cells [.int .i64 n1, .int .i64 n2, .int .i64 n3].toArray 136)).drew := ((Below.refl _ w4).alloc (Nat.le_refl _) _).drew
  have hKA : Blk (w4.alloc (.cells [.int .i64 n1, .int .i64 n2, .int .i64 n3].toArray 136)).drew w4.heap.size 136 [.int .i64 n1, .int .i64 n2, .int .i64 n3].toArray := Blk.new w4 136 _
  have hRA := HR4.out.off (grown_of_below hbA none) (fun r hr => by cases hr)
  have hBA := HB4.out.trans (hbA.mono (by omega))
  have hKB := HK4.out.below hbA HK4.out.lt
  generalize (w4.alloc (.cells [.int .i64 n1, .int .i64 n2, .int .i64 n3].toArray 136)).drew = WA at hKA hRA hBA hKB ⊢
  obtain ⟨⟨_, _, _, _, c4', c5', _⟩, ⟨_, _, _, _, d4', d5', _⟩⟩ := blk7_at hRA.pl.blk
  obtain ⟨k0, k1, k2, _, _, _⟩ := blk3_at hKB
  refine hK.out _ _ ⟨c5', k0, k1, k2⟩ (fun hHeld => ?_)
  clear hK K
  try simp only [Act.put, List.setIfInBounds_toArray, List.set_cons_zero, List.set_cons_succ]
  refine heldT_sole 8 (by simp) (by kernel_rfl) (fun K hK => ?_)
  simp only [List.getElem_cons_zero, List.getElem_cons_succ]
  rw [if_pos (by rfl)]
  refine wp_append_size (.tmp 17) (.tmp 19) 85 rfl (g + 1) 136 (.agg #[.int .i64 0, .int .i64 0, .int .i64 0]) 3 24 Try.underlying85 info_tim rfl (by decide) _ ts.length _ rfl hRA.tms ⟨w4.heap.size, 0, none⟩ 1 1 [.int .i64 n1, .int .i64 n2, .int .i64 n3] rfl rfl (blk_addr hKA) (by simp [Value.oneCell']) (by unfold maxLen; omega) (by omega) (by have := hRA.pl.blk.lt; omega) ?_
  intro v5 w5 hown5 hg5 hf5
  obtain ⟨A5, c5, rfl, -, -, -⟩ := own_row_shape hown5
  have hlt5 : ∀ q, v4.ownBlock = some q → g < q ∧ q < bt := fun q hq => by have h1 := HLT.out q (.inr (.inr (.inr (.inl hq)))); omega
  have hKR5 : Blk w5 g 143 _ := hRA.pl.blk.grown hg5 (fun e => by have := hlt5 g e.symm; omega)
  have hKT5 := hKB.grown hg5 (fun e => by have := hlt5 bt e.symm; omega)
  obtain ⟨⟨_, _, _, _, c4', c5', _⟩, ⟨_, _, _, _, d4', d5', _⟩⟩ := blk7_at hKR5
  obtain ⟨k0, k1, k2, _, _, _⟩ := blk3_at hKT5
  have HFIN := Lib.hid (And.intro (hRA.pushT (p := ⟨n1, n2, n3⟩) hown5 hg5) ((hBA.grown hg5 (by have := hRA.pl.blk.lt; omega) (fun j hj => by have := hlt5 j hj; omega)).setCell (p := ⟨g, 5, none⟩) (Nat.le_refl _) (.slice A5 (ts.length + 1) c5)))
  clear hown5 hg5 hf5 hKR5 hKT5 hRA hBA hKB hKA
  refine hK.out _ _ ⟨c5', k0, k1, k2⟩ (fun hHeld => ?_)
  clear hK K
  try simp only [Act.put, List.setIfInBounds_toArray, List.set_cons_zero, List.set_cons_succ]
  refine heldT_sole 9 (by simp) (by kernel_rfl) (fun K hK => ?_)
  simp only [List.getElem_cons_zero, List.getElem_cons_succ]
  go_simp
  refine hK.out _ _ ⟨c5', k0, k1, k2⟩ (fun hHeld => ?_)
  clear hK K
  try simp only [Act.put, List.setIfInBounds_toArray, List.set_cons_zero, List.set_cons_succ]
  refine heldT_sole 10 (by simp) (by kernel_rfl) (fun K hK => ?_)
  simp only [List.getElem_cons_zero, List.getElem_cons_succ]
  go_simp
  refine hK.out _ _ ⟨c5', k0, k1, k2⟩ (fun hHeld => ?_)
  clear hK K
  try simp only [Act.put, List.setIfInBounds_toArray, List.set_cons_zero, List.set_cons_succ]
  refine heldT_sole 11 (by simp) (by kernel_rfl) (fun K hK => ?_)
  simp only [List.getElem_cons_zero, List.getElem_cons_succ]
  go_simp
  refine hK.out _ _ ⟨c5', k0, k1, k2⟩ (fun hHeld => ?_)
  clear hK K
  try simp only [Act.put, List.setIfInBounds_toArray, List.set_cons_zero, List.set_cons_succ]
  refine heldT_last (t := 12) (by simp) (by kernel_rfl) (by kernel_rfl) (fun K hK => ?_)
  simp only [List.getElem_cons_zero, List.getElem_cons_succ]
  go_simp
  refine hK.out _ _ ?_
  clear hK K hHeld
  go_wp2
  go_end0
  exact ⟨_, _, _, _, _, _, rfl, HFIN.out.1, HFIN.out.2, HREL.out⟩
end Go.Proofs.Ytaadbklimfngiaa
