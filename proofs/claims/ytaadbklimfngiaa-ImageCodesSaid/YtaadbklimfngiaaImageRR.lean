/- The reference reads an instance's bytes (pavaneref18.Read). Condition: the bytes can be read. -/
import Derived.Test.YtaadbklimfngiaaImageRRd
import Derived.Deep.DeepCutAuto
import Derived.Deep.CutBlock
set_option linter.unusedVariables false
namespace Go.Proofs.Ytaadbklimfngiaa
open Go.RowKit Oct

theorem wpList_append_size {P : Program} {w : World} {ops : Array Oper} {rest : List Oper} {o : Oper} {a : Act} {Q : Exit → Act → World → Prop} (hgd : o.guard = none) (s x : Operand) (t : TypeId)
    (ho : o.op = .call { callee := .builtin .append, args := #[s, x], argTypes := #[t, t] })
    (base : Nat) (e : TypeId) (z : Value) (size bytes : Nat) (ht : P.underlying t = some (.slice e)) (hinfo : (P.info? e).map (fun i => (i.zero, i.size, i.bytes)) = some (some z, size, bytes)) (hzs : z.cells.size = size) (hsz : 0 < size)
    (v : Value) (n : Nat) (xs : List Value) (hs : a.eval s = v) (hown : w.ownsRow base e size v n xs)
    (ad : Addr) (m c : Nat) (news : List Value) (hx : a.eval x = .slice (some ad) m c) (hl : news.length = m * size) (hnews : ∀ j u, news[j]? = some u → w.cell? (ad.add j) = some u) (h1 : ∀ u ∈ news, u.oneCell' = true)
    (h63 : n + m ≤ maxLen) (hbytes : (n + m) * bytes ≤ 140737488355328) (hbase : base ≤ w.heap.size)
    (h : ∀ v' w', w'.ownsRow base e size v' (n + m) (xs ++ news) → w.grownBy w' v.ownBlock → Fresh v' v.ownBlock w.heap.size → wpList P ops Q rest (a.put o.dst v') w') : wpList P ops Q (o :: rest) a w :=
  wpList_plain hgd fun _ hK => wp_append_size s x t ho base e z size bytes ht hinfo hzs hsz v n xs hs hown ad m c news hx hl hnews h1 h63 hbytes hbase fun v' w' h2 h3 h4 => hK _ _ (h v' w' h2 h3 h4)
/-- An instance that is being read. -/
structure XAt (w : World) (gx : Nat) (v1 : Value) (z1 : List Int) (v2 : Value) (z2 : List Int) (v3 : Value) (es : List PE) (v4 : Value) (ts : List TimD) (now : Int) : Prop where
  blk : Blk w gx 87 #[v1, v2, v3, v4, .int .i64 now]
  act : Is w (gx + 1) v1 z1
  nums : Is w (gx + 1) v2 z2
  past : GotPast w (gx + 1) v3 es
  tms : GotTims w (gx + 1) v4 ts
section
variable {w w' : World} {g gx : Nat} {v1 : Value} {z1 : List Int} {v2 : Value} {z2 : List Int} {v3 : Value} {es : List PE} {v4 : Value} {ts : List TimD} {now : Int}
theorem XAt.lt (h : XAt w gx v1 z1 v2 z2 v3 es v4 ts now) : ∀ q, RdrOwn v1 v2 v3 es v4 q → gx < q ∧ q < w.heap.size := by
  intro q hq
  rcases hq with hq | hq | hq | hq | ⟨e, he, hq⟩
  · have := World.ownsRow.lt h.act q hq; omega
  · have := World.ownsRow.lt h.nums q hq; omega
  · have := World.ownsRow.lt h.past.own q hq; omega
  · have := World.ownsRow.lt h.tms q hq; omega
  · have := World.ownsRow.lt (h.past.got e he) q hq; omega
theorem XAt.off (h : XAt w gx v1 z1 v2 z2 v3 es v4 ts now) {row : Option Nat} (hg : w.grownBy w' row) (hr : ∀ r, row = some r → r ≠ gx ∧ ¬ RdrOwn v1 v2 v3 es v4 r) : XAt w' gx v1 z1 v2 z2 v3 es v4 ts now :=
  ⟨h.blk.grown hg (fun e => (hr gx e.symm).1 rfl), World.ownsRow.kept h.act hg (ne_own fun r e hv => (hr r e).2 (.inl hv)), World.ownsRow.kept h.nums hg (ne_own fun r e hv => (hr r e).2 (.inr (.inl hv))), ⟨World.ownsRow.kept h.past.own hg (ne_own fun r e hv => (hr r e).2 (.inr (.inr (.inl hv)))), fun e he => World.ownsRow.kept (h.past.got e he) hg (ne_own fun r e' hv => (hr r e').2 (.inr (.inr (.inr (.inr ⟨e, he, hv⟩)))))⟩, World.ownsRow.kept h.tms hg (ne_own fun r e hv => (hr r e).2 (.inr (.inr (.inr (.inl hv)))))⟩
theorem XAt.low (h : XAt w gx v1 z1 v2 z2 v3 es v4 ts now) (hg : w.grownBy w' (some g)) (hlt : g < gx) : XAt w' gx v1 z1 v2 z2 v3 es v4 ts now :=
  h.off hg fun r hr => by
    injection hr with hr
    subst hr
    exact ⟨by omega, fun ho => by have := h.lt _ ho; omega⟩
theorem XAt.new (h : XAt w gx v1 z1 v2 z2 v3 es v4 ts now) (hb : Below w.heap.size w w') : XAt w' gx v1 z1 v2 z2 v3 es v4 ts now := h.off (grown_of_below hb none) fun r hr => by cases hr
theorem XAt.set0 (h : XAt w gx v1 z1 v2 z2 v3 es v4 ts now) {v : Value} {z : List Int} (hv : Is w (gx + 1) v z) : XAt (w.setCell ⟨gx, 0, none⟩ v) gx v z v2 z2 v3 es v4 ts now :=
  ⟨Blk.set_ h.blk 0 _, Own.far hv (grown_setCell w gx 0 v) (by omega), Own.far h.nums (grown_setCell w gx 0 v) (by omega), h.past.far (grown_setCell w gx 0 v) (by omega), h.tms.far (grown_setCell w gx 0 v) (by omega)⟩
theorem XAt.set1 (h : XAt w gx v1 z1 v2 z2 v3 es v4 ts now) {v : Value} {z : List Int} (hv : Is w (gx + 1) v z) : XAt (w.setCell ⟨gx, 1, none⟩ v) gx v1 z1 v z v3 es v4 ts now :=
  ⟨Blk.set_ h.blk 1 _, Own.far h.act (grown_setCell w gx 1 v) (by omega), Own.far hv (grown_setCell w gx 1 v) (by omega), h.past.far (grown_setCell w gx 1 v) (by omega), h.tms.far (grown_setCell w gx 1 v) (by omega)⟩
theorem XAt.set4 (h : XAt w gx v1 z1 v2 z2 v3 es v4 ts now) (n : Int) : XAt (w.setCell ⟨gx, 4, none⟩ (.int .i64 n)) gx v1 z1 v2 z2 v3 es v4 ts n :=
  ⟨Blk.set_ h.blk 4 _, Own.far h.act (grown_setCell w gx 4 _) (by omega), Own.far h.nums (grown_setCell w gx 4 _) (by omega), h.past.far (grown_setCell w gx 4 _) (by omega), h.tms.far (grown_setCell w gx 4 _) (by omega)⟩
theorem XAt.pushP {w2 : World} {v' : Value} {p : PastD} {x : Value} (h : XAt w gx v1 z1 v2 z2 v3 es v4 ts now) (hx : Is w (gx + 1) x p.z)
    (hown : w2.ownsRow (gx + 1) 129 2 v' (es.length + 1) (es.flatMap pastC ++ [.int .i64 p.n, x])) (hg : w.grownBy w2 v3.ownBlock) : XAt (w2.setCell ⟨gx, 2, none⟩ v') gx v1 z1 v2 z2 v' (es ++ [(p, x)]) v4 ts now := by
  have hlt : ∀ q, v3.ownBlock = some q → gx < q := fun q hq => (h.lt q (.inr (.inr (.inl hq)))).1
  have hsc := grown_setCell w2 gx 2 v'
  have k1 : Blk w2 gx 87 _ := h.blk.grown hg (fun e => by have := hlt gx e.symm; omega)
  have h1 : Is w2 (gx + 1) v1 z1 := World.ownsRow.kept h.act hg (own_type_ne h.act h.past.own (by decide))
  have h2 : Is w2 (gx + 1) v2 z2 := World.ownsRow.kept h.nums hg (own_type_ne h.nums h.past.own (by decide))
  have h3 : GotTims w2 (gx + 1) v4 ts := World.ownsRow.kept h.tms hg (own_type_ne h.tms h.past.own (by decide))
  have h4 := GotPast.push (w := w) h.past hx hown hg
  exact ⟨Blk.set_ k1 2 _, Own.far h1 hsc (by omega), Own.far h2 hsc (by omega), h4.far hsc (by omega), h3.far hsc (by omega)⟩
theorem XAt.pushT {w2 : World} {v' : Value} {p : TimD} (h : XAt w gx v1 z1 v2 z2 v3 es v4 ts now)
    (hown : w2.ownsRow (gx + 1) 136 3 v' (ts.length + 1) (ts.flatMap timC ++ [.int .i64 p.d, .int .i64 p.n, .int .i64 p.s])) (hg : w.grownBy w2 v4.ownBlock) : XAt (w2.setCell ⟨gx, 3, none⟩ v') gx v1 z1 v2 z2 v3 es v' (ts ++ [p]) now := by
  have hlt : ∀ q, v4.ownBlock = some q → gx < q := fun q hq => (h.lt q (.inr (.inr (.inr (.inl hq))))).1
  have hsc := grown_setCell w2 gx 3 v'
  have k1 : Blk w2 gx 87 _ := h.blk.grown hg (fun e => by have := hlt gx e.symm; omega)
  have h1 : Is w2 (gx + 1) v1 z1 := World.ownsRow.kept h.act hg (own_type_ne h.act h.tms (by decide))
  have h2 : Is w2 (gx + 1) v2 z2 := World.ownsRow.kept h.nums hg (own_type_ne h.nums h.tms (by decide))
  have h3 : GotPast w2 (gx + 1) v3 es := ⟨World.ownsRow.kept h.past.own hg (own_type_ne h.past.own h.tms (by decide)), fun e he => World.ownsRow.kept (h.past.got e he) hg (own_type_ne (h.past.got e he) h.tms (by decide))⟩
  have h4 : GotTims w2 (gx + 1) v' (ts ++ [p]) := by
    unfold GotTims
    rw [flat_snoc, List.length_append]
    exact hown
  exact ⟨Blk.set_ k1 3 _, Own.far h1 hsc (by omega), Own.far h2 hsc (by omega), h3.far hsc (by omega), h4.far hsc (by omega)⟩
theorem TkAt.keep {A : Option Addr} {P : List UInt8} {c at_ : Nat} {bad : Bool} (h : TkAt w g A P c at_ bad) {row : Option Nat} (hg : w.grownBy w' row) (hr : ∀ r, row = some r → g < r) : TkAt w' g A P c at_ bad := by
  have hgl := h.blk.lt
  exact ⟨h.blk.grown hg (fun e => by have := hr g e.symm; omega), h.rd.keep fun p hp => World.cell?_of_block (hg.block p.block (by omega) (fun e => by have := hr p.block e.symm; omega)), h.le, h.cap, h.len, h.here⟩
end
theorem many_past {b2 bm : Bool} {l2 lm : List UInt8} {n : Nat} (h : ManyRel b2 l2 n bm lm) : (bm = true → b2 = true ∨ ((tkN l2).bind fun k => tkRow tkPast k.1 k.2 []) = none) ∧ (bm = false → (b2 = false ∧ ((tkN l2).bind fun k => tkRow tkPast k.1 k.2 []) = tkRow tkPast n lm []) ∧ n ≤ 4096) := by
  refine ⟨fun hb => ?_, fun hb => ?_⟩
  · rcases (h.1 hb).2 with h2 | h2
    · exact .inl h2
    · exact .inr (by rw [h2]; rfl)
  · obtain ⟨h1, h2, h3⟩ := h.2 hb
    exact ⟨⟨h1, by rw [h2]; rfl⟩, h3⟩
theorem many_tim {b2 bm : Bool} {l2 lm : List UInt8} {n : Nat} (h : ManyRel b2 l2 n bm lm) : (bm = true → b2 = true ∨ ((tkN l2).bind fun k => tkRow tkTim k.1 k.2 []) = none) ∧ (bm = false → (b2 = false ∧ ((tkN l2).bind fun k => tkRow tkTim k.1 k.2 []) = tkRow tkTim n lm []) ∧ n ≤ 4096) := by
  refine ⟨fun hb => ?_, fun hb => ?_⟩
  · rcases (h.1 hb).2 with h2 | h2
    · exact .inl h2
    · exact .inr (by rw [h2]; rfl)
  · obtain ⟨h1, h2, h3⟩ := h.2 hb
    exact ⟨⟨h1, by rw [h2]; rfl⟩, h3⟩
theorem readOut_x {w W : World} {l : List UInt8} {gx : Nat} {v1 v2 v3 v4 : Value} {z1 z2 : List Int} {es : List PE} {ts : List TimD} {now : Int} (h : instR l = some ⟨z1, z2, es.map (·.1), ts, now⟩) (hX : XAt W gx v1 z1 v2 z2 v3 es v4 ts now) (hg : w.heap.size + 1 ≤ gx)
    (hb : Below w.heap.size w (((((W.setCell ⟨w.heap.size, 0, none⟩ v1).setCell ⟨w.heap.size, 1, none⟩ v2).setCell ⟨w.heap.size, 2, none⟩ v3).setCell ⟨w.heap.size, 3, none⟩ v4).setCell ⟨w.heap.size, 4, none⟩ (.int .i64 now))) :
    readOut w l (.returned (.tuple #[.agg #[v1, v2, v3, v4, .int .i64 now], .int .i64 0])) (((((W.setCell ⟨w.heap.size, 0, none⟩ v1).setCell ⟨w.heap.size, 1, none⟩ v2).setCell ⟨w.heap.size, 2, none⟩ v3).setCell ⟨w.heap.size, 3, none⟩ v4).setCell ⟨w.heap.size, 4, none⟩ (.int .i64 now)) := by
  have hs := grown_s5 W w.heap.size v1 v2 v3 v4 (.int .i64 now)
  refine ⟨_, by unfold rE; rw [h]; rfl, ⟨v1, v2, v3, v4, es, by unfold rX; rw [h]; rfl, by unfold rX; rw [h]; exact Own.mono (Own.far hX.act hs (by omega)) (by omega), by unfold rX; rw [h]; exact Own.mono (Own.far hX.nums hs (by omega)) (by omega), (hX.past.far hs (by omega)).mono (by omega), by unfold rX; rw [h]; rfl, ?_⟩, hb⟩
  unfold rX
  rw [h]
  have h5 := hX.tms.far hs (by omega)
  refine ⟨h5.1, ?_⟩
  rcases h5.2 with h2 | ⟨g', cap, cur, hv, hb2, r⟩
  · exact .inl h2
  · exact .inr ⟨g', cap, cur, hv, by omega, r⟩

set_option maxHeartbeats 8000000 in
set_option maxRecDepth 100000 in
theorem rimageRead_any (A : Option Addr) (l : List UInt8) (n c : Nat) (hn : n = l.length) (w : World) (hr : Rd w w.heap.size A (cells l)) (hlc : l.length ≤ c) (hl : l.length ≤ 140737488351232 ∧ c ≤ 9223372036854775807) :
    Calls Try.prog 72 #[.slice A n c] w (readOut w l) := by
  subst hn
  have hb0 := (Below.refl w.heap.size w).alloc (Nat.le_refl _) (.cells #[.slice none 0 0, .slice none 0 0, .slice none 0 0, .slice none 0 0, .int .i64 0] 87)
  have hK0 := Lib.hid (Blk.new w 87 #[.slice none 0 0, .slice none 0 0, .slice none 0 0, .slice none 0 0, .int .i64 0])
  have hs0 : w.heap.size + 1 ≤ (w.alloc (.cells #[.slice none 0 0, .slice none 0 0, .slice none 0 0, .slice none 0 0, .int .i64 0] 87)).heap.size := by simp
  have hrd := Lib.hid ((hr.below hb0).more hb0.size)
  have HB0 := Lib.hid hb0
  have HL := Lib.hid hl
  have hll := hl.1
  clear hr hb0
  go_enter Try.func72, Try.ntmps72
  go_upto_region 1 with fail
  generalize w.alloc (.cells #[.slice none 0 0, .slice none 0 0, .slice none 0 0, .slice none 0 0, .int .i64 0] 87) = w0 at hK0 hs0 hrd HB0 ⊢
  have hpc := Lib.hid (ropen_any A l l.length c rfl w0 hrd.out hlc HL.out)
  clear hrd hl
  go_wp2_with fail
  refine hpc.out.mono ?_
  clear hpc
  rintro e w1 ⟨v, rfl, hv, hb1⟩
  obtain ⟨Ap, cp, rfl, hcp, hcp2, -⟩ := bs_shape hv
  have hrp := own_rd hv
  have hs1 : w0.heap.size ≤ w1.heap.size := hb1.size
  have HK1 := Lib.hid (hK0.out.below hb1 (by omega))
  have HB1 := Lib.hid (HB0.out.trans (hb1.mono (by omega)))
  have hpl : (openS l).1.length ≤ 140737488351232 := Nat.le_trans (openS_len l) HL.out.1
  have HRP := Lib.hid hrp
  clear hb1 hv hK0 HB0 hrp
  obtain ⟨⟨e0, f0⟩, ⟨e1, f1⟩, ⟨e2, f2⟩, ⟨e3, f3⟩, ⟨e4, f4⟩⟩ := blk5_fr HK1.out
  by_cases h1 : (openS l).2.2 = 0
  · by_cases h2 : (openS l).2.1 = l.length
    · have HIR : Hid (instR l = readI (openS l).1) := Lib.hid (by unfold instR; rw [if_pos ⟨h1, h2⟩])
      rw [h1, h2]
      clear h1 h2
      generalize (openS l).1 = P at HRP hcp hpl HIR ⊢
      have hbT := (Below.refl w1.heap.size w1).alloc (Nat.le_refl _) (.cells #[.slice Ap P.length cp, .int .i64 0, .bool false] 148)
      have hsT : (w1.alloc (.cells #[.slice Ap P.length cp, .int .i64 0, .bool false] 148)).heap.size = w1.heap.size + 1 := by simp
      have hbX := hbT.alloc (by omega) (.cells #[.slice none 0 0, .slice none 0 0, .slice none 0 0, .slice none 0 0, .int .i64 0] 87)
      have hT4 : TkAt ((w1.alloc (.cells #[.slice Ap P.length cp, .int .i64 0, .bool false] 148)).alloc (.cells #[.slice none 0 0, .slice none 0 0, .slice none 0 0, .slice none 0 0, .int .i64 0] 87)) w1.heap.size Ap P cp 0 false := ⟨(Blk.new w1 148 #[.slice Ap P.length cp, .int .i64 0, .bool false]).alloc (.cells #[.slice none 0 0, .slice none 0 0, .slice none 0 0, .slice none 0 0, .int .i64 0] 87), HRP.out.below hbX, hcp, hcp2, hpl, Nat.zero_le _⟩
      have hX4 : XAt ((w1.alloc (.cells #[.slice Ap P.length cp, .int .i64 0, .bool false] 148)).alloc (.cells #[.slice none 0 0, .slice none 0 0, .slice none 0 0, .slice none 0 0, .int .i64 0] 87)) (w1.heap.size + 1) (.slice none 0 0) [] (.slice none 0 0) [] (.slice none 0 0) [] (.slice none 0 0) [] 0 := ⟨by rw [← hsT]; exact Blk.new _ _ _, Own.nil _ _ _, Own.nil _ _ _, GotPast.nil _ _, GotTims.nil _ _⟩
      have HT4 := Lib.hid hT4
      have HX4 := Lib.hid hX4
      have HK4 := Lib.hid (HK1.out.below hbX (by omega))
      have HB4 := Lib.hid (HB1.out.trans (hbX.mono (by omega)))
      have hsX : w1.heap.size + 2 ≤ ((w1.alloc (.cells #[.slice Ap P.length cp, .int .i64 0, .bool false] 148)).alloc (.cells #[.slice none 0 0, .slice none 0 0, .slice none 0 0, .slice none 0 0, .int .i64 0] 87)).heap.size := by simp
      clear hbT hbX hT4 hX4 hsT HK1 HB1 HRP
      go_upto_region 6 with fail
      clear e0 e1 e2 e3 e4 f0 f1 f2 f3 f4
      generalize (w1.alloc (.cells #[.slice Ap P.length cp, .int .i64 0, .bool false] 148)).alloc (.cells #[.slice none 0 0, .slice none 0 0, .slice none 0 0, .slice none 0 0, .int .i64 0] 87) = w4 at HT4 HX4 HK4 HB4 hsX ⊢
      obtain ⟨g, hg⟩ : ∃ g, g = w1.heap.size := ⟨_, rfl⟩
      rw [← hg] at HT4 HX4 hsX ⊢
      have hgw : w.heap.size + 1 ≤ g := by omega
      clear hg
      have HBG : Hid (∀ W, Below g w4 W → Blk W w.heap.size 87 #[.slice none 0 0, .slice none 0 0, .slice none 0 0, .slice none 0 0, .int .i64 0] ∧ Below w.heap.size w W) := Lib.hid fun W hb => ⟨HK4.out.below hb (by omega), HB4.out.trans (hb.mono (by omega))⟩
      have HG4 : Hid (Below g w4 w4) := Lib.hid (Below.refl _ _)
      clear HK4 HB4
      have hcall := Lib.hid (tints_any w4 g Ap P cp 0 false HT4.out)
      have hgx4 : g + 1 < w4.heap.size := HX4.out.blk.lt
      go_wp2_with fail
      refine hcall.out.mono ?_
      clear hcall
      rintro e w5 ⟨v5x, z5, at5, b5, rfl, hv5, hT5, hg5, hrel5⟩
      obtain ⟨Av5, cv5, rfl, -, -, -⟩ := is_shape hv5
      have hX5 := HX4.out.low hg5 (Nat.lt_succ_self g)
      obtain ⟨⟨e0, f0⟩, ⟨e1, f1⟩, ⟨e2, f2⟩, ⟨e3, f3⟩, ⟨e4, f4⟩⟩ := blk5_fr hX5.blk
      have HX5 := Lib.hid (hX5.set0 (Own.mono hv5 (by omega : g + 1 + 1 ≤ w4.heap.size)))
      have HT5 := Lib.hid (hT5.keep (grown_setCell w5 (g + 1) 0 (.slice Av5 z5.length cv5)) (fun r hr => by injection hr with hr; omega))
      have HG5 := Lib.hid ((HG4.out.grown hg5 (by omega) (fun j hj => by injection hj with hj; omega)).setCell (p := ⟨g + 1, 0, none⟩) (Nat.le_succ g) (.slice Av5 z5.length cv5))
      have HREL5 := Lib.hid hrel5
      clear hv5 hX5 hT5 hg5 hrel5 HX4 HT4 HG4
      go_upto_region 7 with fail
      clear e0 e1 e2 e3 e4 f0 f1 f2 f3 f4
      generalize w5.setCell ⟨g + 1, 0, none⟩ (.slice Av5 z5.length cv5) = w5a at HX5 HT5 HG5 ⊢
      obtain ⟨w5, hw5⟩ : ∃ u, u = w5a := ⟨_, rfl⟩
      subst hw5
      have hcall := Lib.hid (tints_any w5 g Ap P cp at5 b5 HT5.out)
      have hgx5 : g + 1 < w5.heap.size := HX5.out.blk.lt
      go_wp2_with fail
      refine hcall.out.mono ?_
      clear hcall
      rintro e w6 ⟨v6x, z6, at6, b6, rfl, hv6, hT6, hg6, hrel6⟩
      obtain ⟨Av6, cv6, rfl, -, -, -⟩ := is_shape hv6
      have hX6 := HX5.out.low hg6 (Nat.lt_succ_self g)
      obtain ⟨⟨e0, f0⟩, ⟨e1, f1⟩, ⟨e2, f2⟩, ⟨e3, f3⟩, ⟨e4, f4⟩⟩ := blk5_fr hX6.blk
      have HX6 := Lib.hid (hX6.set1 (Own.mono hv6 (by omega : g + 1 + 1 ≤ w5.heap.size)))
      have HT6 := Lib.hid (hT6.keep (grown_setCell w6 (g + 1) 1 (.slice Av6 z6.length cv6)) (fun r hr => by injection hr with hr; omega))
      have HG6 := Lib.hid ((HG5.out.grown hg6 (by omega) (fun j hj => by injection hj with hj; omega)).setCell (p := ⟨g + 1, 1, none⟩) (Nat.le_succ g) (.slice Av6 z6.length cv6))
      have HREL6 := Lib.hid hrel6
      clear hv6 hX6 hT6 hg6 hrel6 HX5 HT5 HG5
      go_upto_region 8 with fail
      clear e0 e1 e2 e3 e4 f0 f1 f2 f3 f4
      generalize w6.setCell ⟨g + 1, 1, none⟩ (.slice Av6 z6.length cv6) = w6a at HX6 HT6 HG6 ⊢
      obtain ⟨w6, hw6⟩ : ∃ u, u = w6a := ⟨_, rfl⟩
      subst hw6
      have hcall := Lib.hid (tmany_any w6 g Ap P cp at6 b6 HT6.out)
      have hgx6 : g + 1 < w6.heap.size := HX6.out.blk.lt
      go_wp2_with fail
      refine hcall.out.mono ?_
      clear hcall
      rintro e w7 ⟨N7, at7, b7, rfl, hT7, hg7, hrel7⟩
      have HX7 := Lib.hid (HX6.out.low hg7 (Nat.lt_succ_self g))
      have HT7 := Lib.hid hT7
      have HG7 := Lib.hid (HG6.out.grown hg7 (by omega) (fun j hj => by injection hj with hj; omega))
      have HREL7 := Lib.hid hrel7
      clear hT7 hg7 hrel7 HX6 HT6 HG6
      have HMP := Lib.hid (many_past HREL7.out)
      go_upto_block 0 with fail
      go_cut [] (fun wx => ∃ (es : List PE) (v : Value) (at' : Nat) (bq : Bool), Hid (TkAt wx g Ap P cp at' bq) ∧ Hid (XAt wx (g + 1) (.slice Av5 z5.length cv5) z5 (.slice Av6 z6.length cv6) z6 v es (.slice none 0 0) [] 0) ∧ Hid (Below g w4 wx) ∧ Hid ((bq = true → b6 = true ∨ ((tkN (P.drop at6)).bind fun k => tkRow tkPast k.1 k.2 []) = none) ∧ (bq = false → b6 = false ∧ ((tkN (P.drop at6)).bind fun k => tkRow tkPast k.1 k.2 []) = some ((es.map (·.1)), P.drop at'))))
      case first =>
        go_wp2_with fail
        go_loopw [10] (fun i wq => ∃ (k j : Nat) (es : List PE) (v : Value) (at' : Nat) (bq : Bool), i = .int .i64 k ∧ k ≤ N7 ∧ Hid (k + j = N7 ∧ es.length = k) ∧ Hid (TkAt wq g Ap P cp at' bq) ∧ Hid (XAt wq (g + 1) (.slice Av5 z5.length cv5) z5 (.slice Av6 z6.length cv6) z6 v es (.slice none 0 0) [] 0) ∧ Hid (Below g w4 wq) ∧ Hid ((bq = true → b6 = true ∨ ((tkN (P.drop at6)).bind fun k => tkRow tkPast k.1 k.2 []) = none) ∧ (bq = false → (b6 = false ∧ ((tkN (P.drop at6)).bind fun k => tkRow tkPast k.1 k.2 []) = tkRow tkPast j (P.drop at') (es.map (·.1))) ∧ es.length + j ≤ 4096))) (fun i _ => N7 - (intOf i).toNat)
        case atStart => exact ⟨0, N7, [], (.slice none 0 0), at7, b7, rfl, Nat.zero_le _, Lib.hid ⟨by omega, rfl⟩, HT7, HX7, HG7, Lib.hid ⟨HMP.out.1, fun h => ⟨(HMP.out.2 h).1, by have := (HMP.out.2 h).2; simpa using this⟩⟩⟩
        case round =>
          obtain ⟨k, j, es, v, at', bq, rfl, hkN, hkj, hT, hX, hG, hP⟩ := hrel
          clear HT7 HX7 HG7 HMP
          have hgxr : g + 1 < wr.heap.size := hX.out.blk.lt
          obtain ⟨k0, k1, k2, _, _, _⟩ := blk3_at hT.out.blk
          by_cases hgo : k < N7 ∧ bq = false
          · obtain ⟨hlt, rfl⟩ := hgo
            have hltI : (k : Int) < N7 := by omega
            obtain ⟨j', hj'⟩ : ∃ j', j = j' + 1 := ⟨j - 1, by have := hkj.out.1; omega⟩
            subst hj'
            have HPP := Lib.hid (hP.out.2 rfl)
            have hel : es.length ≤ 4096 := by have := HPP.out.2; omega
            have hk4 : k ≤ 4096 := by have := hkj.out.2; omega
            clear hP
            have hcall := Lib.hid (tint_any wr g Ap P cp at' false hT.out)
            go_wp2_with fail
            refine hcall.out.mono ?_
            clear hcall k0 k1 k2
            rintro e y1 ⟨n1, aq1, bb1, rfl, hTq1, hgq1, hrq1⟩
            have hgxa : g + 1 < wr.heap.size := hX.out.blk.lt
            have HXq1 := Lib.hid (hX.out.low hgq1 (Nat.lt_succ_self g))
            have HTq1 := Lib.hid hTq1
            have HGq1 := Lib.hid (hG.out.grown hgq1 (by omega) (fun j hj => by injection hj with hj; omega))
            have HRq1 := Lib.hid hrq1
            clear hTq1 hgq1 hrq1 hT hX hG
            have hcall := Lib.hid (tints_any y1 g Ap P cp aq1 bb1 HTq1.out)
            go_wp2_with fail
            refine hcall.out.mono ?_
            clear hcall
            rintro e y2 ⟨xv, z, aq2, bb2, rfl, hxv, hTq2, hgq2, hrq2⟩
            obtain ⟨Ax, cx, rfl, -, -, -⟩ := is_shape hxv
            have hgxy1a : g + 1 < y1.heap.size := HXq1.out.blk.lt
            have HXq2 := Lib.hid (HXq1.out.low hgq2 (Nat.lt_succ_self g))
            have HTq2 := Lib.hid hTq2
            have HGq2 := Lib.hid (HGq1.out.grown hgq2 (by omega) (fun j hj => by injection hj with hj; omega))
            have HRq2 := Lib.hid hrq2
            have HXV := Lib.hid (Own.mono hxv (by omega : g + 1 + 1 ≤ y1.heap.size))
            clear hTq2 hgq2 hrq2 HTq1 HXq1 HGq1 hxv
            have HSTEP := Lib.hid (eachone_step (T := ((tkN (P.drop at6)).bind fun k => tkRow tkPast k.1 k.2 [])) (bd := b6) HPP.out (past_rel HRq1.out HRq2.out) (.slice Ax z.length cx))
            have hbA := (Below.refl y2.heap.size y2).alloc (Nat.le_refl _) (.cells [.int .i64 n1, .slice Ax z.length cx].toArray 129)
            have hgy : g + 1 < y2.heap.size := HXq2.out.blk.lt
            have HXA := Lib.hid (HXq2.out.new hbA)
            have HTA := Lib.hid (HTq2.out.below hbA (by omega))
            have HGA := Lib.hid (HGq2.out.trans (hbA.mono (by omega)))
            have HSA := Lib.hid hbA.size
            have HXVA := Lib.hid (Own.below HXV.out hbA (Nat.le_refl _))
            obtain ⟨⟨e0, _⟩, ⟨e1, _⟩, ⟨e2, _⟩, ⟨e3, _⟩, ⟨e4, _⟩⟩ := blk5_fr HXq2.out.blk
            obtain ⟨⟨d0, _⟩, ⟨d1, _⟩, ⟨d2, _⟩, ⟨d3, _⟩, ⟨d4, _⟩⟩ := blk5_fr HXA.out.blk
            clear hbA HPP HRq1 HRq2
            have HBA : Hid (g + 1 + 1 ≤ (y2.alloc (.cells [.int .i64 n1, .slice Ax z.length cx].toArray 129)).heap.size) := Lib.hid HXA.out.blk.lt
            go_wp2_with (at_builtin; refine wpList_append_size rfl (.tmp 60) (.tmp 64) 84 rfl (g + 1 + 1) 129 (.agg #[.int .i64 0, .slice none 0 0]) 2 32 Try.underlying84 info_past rfl (by decide) _ es.length _ rfl HXA.out.past.own ⟨y2.heap.size, 0, none⟩ 1 1 [.int .i64 n1, .slice Ax z.length cx] rfl rfl (blk_addr (Blk.new y2 129 _)) (by simp [Value.oneCell']) (by unfold maxLen; omega) (by omega) HBA.out ?_; intro v5 w5 hown5 hg5 hf5; obtain ⟨A5, c5, rfl, -, -, -⟩ := own_row_shape hown5; have hlt5 : ∀ q, Value.ownBlock v = some q → g + 1 < q := fun q hq => (HXA.out.lt q (.inr (.inr (.inl hq)))).1; have hKX5 : Blk w5 (g + 1) 87 _ := HXA.out.blk.grown hg5 (fun e => by have := hlt5 (g + 1) e.symm; omega); obtain ⟨⟨m0, q0⟩, ⟨m1, q1⟩, ⟨m2, q2⟩, ⟨m3, q3⟩, ⟨m4, q4⟩⟩ := blk5_fr hKX5)
            have HX5 := Lib.hid (HXA.out.pushP (p := ⟨n1, z⟩) HXVA.out hown5 hg5)
            have HT5 := Lib.hid ((HTA.out.keep hg5 (fun r hr => by have := hlt5 r hr; omega)).keep (grown_setCell w5 (g + 1) 2 (.slice A5 (es.length + 1) c5)) (fun r hr => by injection hr with hr; omega))
            have HG5 := Lib.hid ((HGA.out.grown hg5 (by have := HBA.out; omega) (fun j hj => by have := hlt5 j hj; omega)).setCell (p := ⟨g + 1, 2, none⟩) (Nat.le_succ g) (.slice A5 (es.length + 1) c5))
            have HKJ : Hid (k + 1 + j' = N7 ∧ (es ++ [((⟨n1, z⟩ : PastD), Value.slice Ax z.length cx)]).length = k + 1) := Lib.hid ⟨by have := hkj.out.1; omega, by have := hkj.out.2; simp; omega⟩
            clear hown5 hg5 hf5 hlt5 hKX5 HXA HTA HGA HBA
            go_wp2
            go_roundw
            case rel => exact ⟨k + 1, j', _, _, _, _, by go_num, by omega, HKJ, HT5, HX5, HG5, HSTEP⟩
            case measure => simp [intOf]; omega
          · have HPA : Hid ((bq = true → b6 = true ∨ ((tkN (P.drop at6)).bind fun k => tkRow tkPast k.1 k.2 []) = none) ∧ (bq = false → b6 = false ∧ ((tkN (P.drop at6)).bind fun k => tkRow tkPast k.1 k.2 []) = some ((es.map (·.1)), P.drop at'))) := Lib.hid ⟨hP.out.1, fun h => by
              have h2 := (hP.out.2 h).1
              have hj : j = 0 := by
                have h3 := hkj.out.1
                have h4 : ¬ k < N7 := fun h4 => hgo ⟨h4, h⟩
                omega
              rw [hj] at h2
              exact h2⟩
            by_cases hk2 : k < N7
            · have hk2I : (k : Int) < N7 := by omega
              have hbt : bq = true := by
                cases bq
                · exact absurd ⟨hk2, rfl⟩ hgo
                · rfl
              rw [hbt] at k2
              clear hgo hP hbt
              go_wp2_with fail
              go_meet
              exact ⟨es, v, at', bq, hT, hX, hG, HPA⟩
            · have hk2I : ¬ (k : Int) < N7 := by omega
              clear hgo hP
              go_wp2_with fail
              go_meet
              exact ⟨es, v, at', bq, hT, hX, hG, HPA⟩
      case rest =>
        obtain ⟨es1, vp, at10, b10, hT, hX, hG, HPA⟩ := hcut
        obtain ⟨w10, hw10⟩ : ∃ u, u = wc := ⟨_, rfl⟩
        subst hw10
        clear HT7 HX7 HG7 HMP
        have hcall := Lib.hid (tmany_any w10 g Ap P cp at10 b10 hT.out)
        go_wp2_with fail
        refine hcall.out.mono ?_
        clear hcall
        rintro e w11 ⟨N11, at11, b11, rfl, hT11, hg11, hrel11⟩
        have HX11 := Lib.hid (hX.out.low hg11 (Nat.lt_succ_self g))
        have HT11 := Lib.hid hT11
        have HG11 := Lib.hid (hG.out.grown hg11 (by have := hX.out.blk.lt; omega) (fun j hj => by injection hj with hj; omega))
        have HREL11 := Lib.hid hrel11
        clear hT11 hg11 hrel11 hT hX hG
        have HMP := Lib.hid (many_tim HREL11.out)
        go_upto_block 2 with fail
        go_cut [] (fun wx => ∃ (es : List TimD) (v : Value) (at' : Nat) (bq : Bool), Hid (TkAt wx g Ap P cp at' bq) ∧ Hid (XAt wx (g + 1) (.slice Av5 z5.length cv5) z5 (.slice Av6 z6.length cv6) z6 vp es1 v es 0) ∧ Hid (Below g w4 wx) ∧ Hid ((bq = true → b10 = true ∨ ((tkN (P.drop at10)).bind fun k => tkRow tkTim k.1 k.2 []) = none) ∧ (bq = false → b10 = false ∧ ((tkN (P.drop at10)).bind fun k => tkRow tkTim k.1 k.2 []) = some (es, P.drop at'))))
        case first =>
          go_wp2_with fail
          go_loopw [13] (fun i wq => ∃ (k j : Nat) (es : List TimD) (v : Value) (at' : Nat) (bq : Bool), i = .int .i64 k ∧ k ≤ N11 ∧ Hid (k + j = N11 ∧ es.length = k) ∧ Hid (TkAt wq g Ap P cp at' bq) ∧ Hid (XAt wq (g + 1) (.slice Av5 z5.length cv5) z5 (.slice Av6 z6.length cv6) z6 vp es1 v es 0) ∧ Hid (Below g w4 wq) ∧ Hid ((bq = true → b10 = true ∨ ((tkN (P.drop at10)).bind fun k => tkRow tkTim k.1 k.2 []) = none) ∧ (bq = false → (b10 = false ∧ ((tkN (P.drop at10)).bind fun k => tkRow tkTim k.1 k.2 []) = tkRow tkTim j (P.drop at') es) ∧ es.length + j ≤ 4096))) (fun i _ => N11 - (intOf i).toNat)
          case atStart => exact ⟨0, N11, [], (.slice none 0 0), at11, b11, rfl, Nat.zero_le _, Lib.hid ⟨by omega, rfl⟩, HT11, HX11, HG11, Lib.hid ⟨HMP.out.1, fun h => ⟨(HMP.out.2 h).1, by have := (HMP.out.2 h).2; simpa using this⟩⟩⟩
          case round =>
            obtain ⟨k, j, es, v, at', bq, rfl, hkN, hkj, hT, hX, hG, hP⟩ := hrel
            clear HT11 HX11 HG11 HMP
            have hgxr : g + 1 < wr.heap.size := hX.out.blk.lt
            obtain ⟨k0, k1, k2, _, _, _⟩ := blk3_at hT.out.blk
            by_cases hgo : k < N11 ∧ bq = false
            · obtain ⟨hlt, rfl⟩ := hgo
              have hltI : (k : Int) < N11 := by omega
              obtain ⟨j', hj'⟩ : ∃ j', j = j' + 1 := ⟨j - 1, by have := hkj.out.1; omega⟩
              subst hj'
              have HPP := Lib.hid (hP.out.2 rfl)
              have hel : es.length ≤ 4096 := by have := HPP.out.2; omega
              have hk4 : k ≤ 4096 := by have := hkj.out.2; omega
              clear hP
              have hcall := Lib.hid (tint_any wr g Ap P cp at' false hT.out)
              go_wp2_with fail
              refine hcall.out.mono ?_
              clear hcall k0 k1 k2
              rintro e y1 ⟨n1, aq1, bb1, rfl, hTq1, hgq1, hrq1⟩
              have hgxa : g + 1 < wr.heap.size := hX.out.blk.lt
              have HXq1 := Lib.hid (hX.out.low hgq1 (Nat.lt_succ_self g))
              have HTq1 := Lib.hid hTq1
              have HGq1 := Lib.hid (hG.out.grown hgq1 (by omega) (fun j hj => by injection hj with hj; omega))
              have HRq1 := Lib.hid hrq1
              clear hTq1 hgq1 hrq1 hT hX hG
              have hcall := Lib.hid (tint_any y1 g Ap P cp aq1 bb1 HTq1.out)
              go_wp2_with fail
              refine hcall.out.mono ?_
              clear hcall
              rintro e y2 ⟨n2, aq2, bb2, rfl, hTq2, hgq2, hrq2⟩
              have hgxy1a : g + 1 < y1.heap.size := HXq1.out.blk.lt
              have HXq2 := Lib.hid (HXq1.out.low hgq2 (Nat.lt_succ_self g))
              have HTq2 := Lib.hid hTq2
              have HGq2 := Lib.hid (HGq1.out.grown hgq2 (by omega) (fun j hj => by injection hj with hj; omega))
              have HRq2 := Lib.hid hrq2
              clear hTq2 hgq2 hrq2 HTq1 HXq1 HGq1
              have hcall := Lib.hid (tint_any y2 g Ap P cp aq2 bb2 HTq2.out)
              go_wp2_with fail
              refine hcall.out.mono ?_
              clear hcall
              rintro e y3 ⟨n3, aq3, bb3, rfl, hTq3, hgq3, hrq3⟩
              have hgxy2a : g + 1 < y2.heap.size := HXq2.out.blk.lt
              have HXq3 := Lib.hid (HXq2.out.low hgq3 (Nat.lt_succ_self g))
              have HTq3 := Lib.hid hTq3
              have HGq3 := Lib.hid (HGq2.out.grown hgq3 (by omega) (fun j hj => by injection hj with hj; omega))
              have HRq3 := Lib.hid hrq3
              clear hTq3 hgq3 hrq3 HTq2 HXq2 HGq2
              have HSTEP := Lib.hid (eachtimer_step (T := ((tkN (P.drop at10)).bind fun k => tkRow tkTim k.1 k.2 [])) (bd := b10) HPP.out (tim_rel HRq1.out HRq2.out HRq3.out) )
              have hbA := (Below.refl y3.heap.size y3).alloc (Nat.le_refl _) (.cells [.int .i64 n1, .int .i64 n2, .int .i64 n3].toArray 136)
              have hgy : g + 1 < y3.heap.size := HXq3.out.blk.lt
              have HXA := Lib.hid (HXq3.out.new hbA)
              have HTA := Lib.hid (HTq3.out.below hbA (by omega))
              have HGA := Lib.hid (HGq3.out.trans (hbA.mono (by omega)))
              have HSA := Lib.hid hbA.size
              obtain ⟨⟨e0, _⟩, ⟨e1, _⟩, ⟨e2, _⟩, ⟨e3, _⟩, ⟨e4, _⟩⟩ := blk5_fr HXq3.out.blk
              obtain ⟨⟨d0, _⟩, ⟨d1, _⟩, ⟨d2, _⟩, ⟨d3, _⟩, ⟨d4, _⟩⟩ := blk5_fr HXA.out.blk
              clear hbA HPP HRq1 HRq2 HRq3
              have HBA : Hid (g + 1 + 1 ≤ (y3.alloc (.cells [.int .i64 n1, .int .i64 n2, .int .i64 n3].toArray 136)).heap.size) := Lib.hid HXA.out.blk.lt
              go_wp2_with (at_builtin; refine wpList_append_size rfl (.tmp 88) (.tmp 93) 85 rfl (g + 1 + 1) 136 (.agg #[.int .i64 0, .int .i64 0, .int .i64 0]) 3 24 Try.underlying85 info_tim rfl (by decide) _ es.length _ rfl HXA.out.tms ⟨y3.heap.size, 0, none⟩ 1 1 [.int .i64 n1, .int .i64 n2, .int .i64 n3] rfl rfl (blk_addr (Blk.new y3 136 _)) (by simp [Value.oneCell']) (by unfold maxLen; omega) (by omega) HBA.out ?_; intro v5 w5 hown5 hg5 hf5; obtain ⟨A5, c5, rfl, -, -, -⟩ := own_row_shape hown5; have hlt5 : ∀ q, Value.ownBlock v = some q → g + 1 < q := fun q hq => (HXA.out.lt q (.inr (.inr (.inr (.inl hq))))).1; have hKX5 : Blk w5 (g + 1) 87 _ := HXA.out.blk.grown hg5 (fun e => by have := hlt5 (g + 1) e.symm; omega); obtain ⟨⟨m0, q0⟩, ⟨m1, q1⟩, ⟨m2, q2⟩, ⟨m3, q3⟩, ⟨m4, q4⟩⟩ := blk5_fr hKX5)
              have HX5 := Lib.hid (HXA.out.pushT (p := ⟨n1, n2, n3⟩) hown5 hg5)
              have HT5 := Lib.hid ((HTA.out.keep hg5 (fun r hr => by have := hlt5 r hr; omega)).keep (grown_setCell w5 (g + 1) 3 (.slice A5 (es.length + 1) c5)) (fun r hr => by injection hr with hr; omega))
              have HG5 := Lib.hid ((HGA.out.grown hg5 (by have := HBA.out; omega) (fun j hj => by have := hlt5 j hj; omega)).setCell (p := ⟨g + 1, 3, none⟩) (Nat.le_succ g) (.slice A5 (es.length + 1) c5))
              have HKJ : Hid (k + 1 + j' = N11 ∧ (es ++ [(⟨n1, n2, n3⟩ : TimD)]).length = k + 1) := Lib.hid ⟨by have := hkj.out.1; omega, by have := hkj.out.2; simp; omega⟩
              clear hown5 hg5 hf5 hlt5 hKX5 HXA HTA HGA HBA
              go_wp2
              go_roundw
              case rel => exact ⟨k + 1, j', _, _, _, _, by go_num, by omega, HKJ, HT5, HX5, HG5, HSTEP⟩
              case measure => simp [intOf]; omega
            · have HPT : Hid ((bq = true → b10 = true ∨ ((tkN (P.drop at10)).bind fun k => tkRow tkTim k.1 k.2 []) = none) ∧ (bq = false → b10 = false ∧ ((tkN (P.drop at10)).bind fun k => tkRow tkTim k.1 k.2 []) = some (es, P.drop at'))) := Lib.hid ⟨hP.out.1, fun h => by
                have h2 := (hP.out.2 h).1
                have hj : j = 0 := by
                  have h3 := hkj.out.1
                  have h4 : ¬ k < N11 := fun h4 => hgo ⟨h4, h⟩
                  omega
                rw [hj] at h2
                exact h2⟩
              by_cases hk2 : k < N11
              · have hk2I : (k : Int) < N11 := by omega
                have hbt : bq = true := by
                  cases bq
                  · exact absurd ⟨hk2, rfl⟩ hgo
                  · rfl
                rw [hbt] at k2
                clear hgo hP hbt
                go_wp2_with fail
                go_meet
                exact ⟨es, v, at', bq, hT, hX, hG, HPT⟩
              · have hk2I : ¬ (k : Int) < N11 := by omega
                clear hgo hP
                go_wp2_with fail
                go_meet
                exact ⟨es, v, at', bq, hT, hX, hG, HPT⟩
        case rest =>
          obtain ⟨es2, v20, at20, b20, hT, hX, hG, HPT⟩ := hcut
          obtain ⟨w20, hw20⟩ : ∃ u, u = wc := ⟨_, rfl⟩
          subst hw20
          have HX20 := hX
          have HT20 := hT
          have HG20 := hG
          clear hX hT hG HT11 HX11 HG11 HMP
          have hcall := Lib.hid (tint_any w20 g Ap P cp at20 b20 HT20.out)
          have hgx20 : g + 1 < w20.heap.size := HX20.out.blk.lt
          go_wp2_with fail
          refine hcall.out.mono ?_
          clear hcall
          rintro e w21 ⟨n21, at21, b21, rfl, hT21, hg21, hrel21⟩
          have hX21 := HX20.out.low hg21 (Nat.lt_succ_self g)
          obtain ⟨⟨e0, f0⟩, ⟨e1, f1⟩, ⟨e2, f2⟩, ⟨e3, f3⟩, ⟨e4, f4⟩⟩ := blk5_fr hX21.blk
          have HX21 := Lib.hid (hX21.set4 n21)
          have HT21 := Lib.hid (hT21.keep (grown_setCell w21 (g + 1) 4 (.int .i64 n21)) (fun r hr => by injection hr with hr; omega))
          have HG21 := Lib.hid ((HG20.out.grown hg21 (by omega) (fun j hj => by injection hj with hj; omega)).setCell (p := ⟨g + 1, 4, none⟩) (Nat.le_succ g) (.int .i64 n21))
          have hfin := read_fin HREL5.out HREL6.out HPA.out HPT.out hrel21
          rw [List.drop_zero] at hfin
          have HF := Lib.hid hfin
          clear hfin
          clear hX21 hT21 hg21 hrel21 HX20 HT20 HG20
          go_upto_region 24 with fail
          clear e0 e1 e2 e3 e4 f0 f1 f2 f3 f4
          generalize w21.setCell ⟨g + 1, 4, none⟩ (.int .i64 n21) = wz at HX21 HT21 HG21 ⊢
          obtain ⟨k0, k1, k2, _, _, _⟩ := blk3_at HT21.out.blk
          have hhere := HT21.out.here
          obtain ⟨hkb, hbw⟩ := HBG.out wz HG21.out
          obtain ⟨⟨e0, f0⟩, ⟨e1, f1⟩, ⟨e2, f2⟩, ⟨e3, f3⟩, ⟨e4, f4⟩⟩ := blk5_fr hkb
          have HKB := Lib.hid hkb
          have HBW := Lib.hid hbw
          clear hkb hbw
          cases b21 with
          | true =>
            have HN : Hid (instR l = none) := Lib.hid (by
              rw [HIR.out]
              rcases HF.out.2 rfl with h | h
              · cases h
              · exact h)
            clear HX21 HT21 HG21 HF
            have hz := HKB.out.set_ 0 (.slice none 0 0)
            have KF := Lib.hid ((((hz.set_ 1 (.slice none 0 0)).set_ 2 (.slice none 0 0)).set_ 3 (.slice none 0 0)).set_ 4 (.int .i64 0))
            have HBF := Lib.hid (((((HBW.out.setCell (p := ⟨w.heap.size, 0, none⟩) (Nat.le_refl _) (.slice none 0 0)).setCell (p := ⟨w.heap.size, 1, none⟩) (Nat.le_refl _) (.slice none 0 0)).setCell (p := ⟨w.heap.size, 2, none⟩) (Nat.le_refl _) (.slice none 0 0)).setCell (p := ⟨w.heap.size, 3, none⟩) (Nat.le_refl _) (.slice none 0 0)).setCell (p := ⟨w.heap.size, 4, none⟩) (Nat.le_refl _) (.int .i64 0))
            clear hz
            go_wp2_with fail
            refine bodyPost_ret (results_inst (fn := Try.f72) rfl _ _ w.heap.size _ _ _ _ _ rfl KF.out) rfl ?_
            exact readOut_none HN.out HBF.out
          | false =>
            by_cases hend : at21 = P.length
            · have HI : Hid (instR l = some ⟨z5, z6, es1.map (·.1), es2, n21⟩) := Lib.hid (by
                obtain ⟨_, h2⟩ := HF.out.1 rfl
                rw [HIR.out, h2, if_pos (by rw [hend, List.drop_length])])
              rw [hend] at k1
              obtain ⟨A3v, c3v, hv3, -, -, -⟩ := own_row_shape HX21.out.past.own
              obtain ⟨A4v, c4v, hv4, -, -, -⟩ := own_row_shape HX21.out.tms
              obtain ⟨⟨x0, _⟩, ⟨x1, _⟩, ⟨x2, _⟩, ⟨x3, _⟩, ⟨x4, _⟩⟩ := blk5_fr HX21.out.blk
              rw [hv3] at x2
              rw [hv4] at x3
              have hz := HKB.out.set_ 0 (.slice Av5 z5.length cv5)
              have KF := Lib.hid ((((hz.set_ 1 (.slice Av6 z6.length cv6)).set_ 2 (.slice A3v es1.length c3v)).set_ 3 (.slice A4v es2.length c4v)).set_ 4 (.int .i64 n21))
              have HBF := Lib.hid (((((HBW.out.setCell (p := ⟨w.heap.size, 0, none⟩) (Nat.le_refl _) (.slice Av5 z5.length cv5)).setCell (p := ⟨w.heap.size, 1, none⟩) (Nat.le_refl _) (.slice Av6 z6.length cv6)).setCell (p := ⟨w.heap.size, 2, none⟩) (Nat.le_refl _) (.slice A3v es1.length c3v)).setCell (p := ⟨w.heap.size, 3, none⟩) (Nat.le_refl _) (.slice A4v es2.length c4v)).setCell (p := ⟨w.heap.size, 4, none⟩) (Nat.le_refl _) (.int .i64 n21))
              have HRR := Lib.hid HX21.out
              have HV := Lib.hid (And.intro hv3 hv4)
              clear hz HX21 HT21 HG21 HF hend hv3 hv4
              go_wp2_with fail
              refine bodyPost_ret (results_inst (fn := Try.f72) rfl _ _ w.heap.size _ _ _ _ _ rfl KF.out) rfl ?_
              exact readOut_x HI.out (HV.out.1 ▸ HV.out.2 ▸ HRR.out) (by omega : w.heap.size + 1 ≤ g + 1) HBF.out
            · have HN : Hid (instR l = none) := Lib.hid (by
                obtain ⟨_, h2⟩ := HF.out.1 rfl
                rw [HIR.out, h2, if_neg (by rw [List.drop_eq_nil_iff]; omega)])
              have hendI : ((at21 : Int) != (P.length : Int)) = true := by simpa using (by omega : (at21 : Int) ≠ P.length)
              clear HX21 HT21 HG21 HF hend
              have hz := HKB.out.set_ 0 (.slice none 0 0)
              have KF := Lib.hid ((((hz.set_ 1 (.slice none 0 0)).set_ 2 (.slice none 0 0)).set_ 3 (.slice none 0 0)).set_ 4 (.int .i64 0))
              have HBF := Lib.hid (((((HBW.out.setCell (p := ⟨w.heap.size, 0, none⟩) (Nat.le_refl _) (.slice none 0 0)).setCell (p := ⟨w.heap.size, 1, none⟩) (Nat.le_refl _) (.slice none 0 0)).setCell (p := ⟨w.heap.size, 2, none⟩) (Nat.le_refl _) (.slice none 0 0)).setCell (p := ⟨w.heap.size, 3, none⟩) (Nat.le_refl _) (.slice none 0 0)).setCell (p := ⟨w.heap.size, 4, none⟩) (Nat.le_refl _) (.int .i64 0))
              clear hz
              go_wp2_with fail
              refine bodyPost_ret (results_inst (fn := Try.f72) rfl _ _ w.heap.size _ _ _ _ _ rfl KF.out) rfl ?_
              exact readOut_none HN.out HBF.out
    · have HN : Hid (instR l = none) := Lib.hid (by unfold instR; rw [if_neg (by omega)])
      have h2b : (((openS l).2.1 : Int) != (l.length : Int)) = true := by simpa using (by omega : ((openS l).2.1 : Int) ≠ l.length)
      rw [h1]
      clear h1 h2
      have hz := HK1.out.set_ 0 (.slice none 0 0)
      have KF := Lib.hid ((((hz.set_ 1 (.slice none 0 0)).set_ 2 (.slice none 0 0)).set_ 3 (.slice none 0 0)).set_ 4 (.int .i64 0))
      have HBF := Lib.hid (((((HB1.out.setCell (p := ⟨w.heap.size, 0, none⟩) (Nat.le_refl _) (.slice none 0 0)).setCell (p := ⟨w.heap.size, 1, none⟩) (Nat.le_refl _) (.slice none 0 0)).setCell (p := ⟨w.heap.size, 2, none⟩) (Nat.le_refl _) (.slice none 0 0)).setCell (p := ⟨w.heap.size, 3, none⟩) (Nat.le_refl _) (.slice none 0 0)).setCell (p := ⟨w.heap.size, 4, none⟩) (Nat.le_refl _) (.int .i64 0))
      clear hz
      go_wp2_with fail
      refine bodyPost_ret (results_inst (fn := Try.f72) rfl _ _ w.heap.size _ _ _ _ _ rfl KF.out) rfl ?_
      exact readOut_none HN.out HBF.out
  · have HN : Hid (instR l = none) := Lib.hid (by unfold instR; rw [if_neg (by omega)])
    have h1b : ((openS l).2.2 != 0) = true := by simpa using h1
    clear h1
    have hz := HK1.out.set_ 0 (.slice none 0 0)
    have KF := Lib.hid ((((hz.set_ 1 (.slice none 0 0)).set_ 2 (.slice none 0 0)).set_ 3 (.slice none 0 0)).set_ 4 (.int .i64 0))
    have HBF := Lib.hid (((((HB1.out.setCell (p := ⟨w.heap.size, 0, none⟩) (Nat.le_refl _) (.slice none 0 0)).setCell (p := ⟨w.heap.size, 1, none⟩) (Nat.le_refl _) (.slice none 0 0)).setCell (p := ⟨w.heap.size, 2, none⟩) (Nat.le_refl _) (.slice none 0 0)).setCell (p := ⟨w.heap.size, 3, none⟩) (Nat.le_refl _) (.slice none 0 0)).setCell (p := ⟨w.heap.size, 4, none⟩) (Nat.le_refl _) (.int .i64 0))
    clear hz
    go_wp2_with fail
    refine bodyPost_ret (results_inst (fn := Try.f72) rfl _ _ w.heap.size _ _ _ _ _ rfl KF.out) rfl ?_
    exact readOut_none HN.out HBF.out
end Go.Proofs.Ytaadbklimfngiaa
