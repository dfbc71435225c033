/- Reading an instance's bytes (image.Read). Condition: the bytes can be read. -/
import Derived.Test.YtaadbklimfngiaaImageEach
set_option linter.unusedVariables false
namespace Go.Proofs.Ytaadbklimfngiaa
open Go.RowKit Oct

/-- What Read hands back. -/
def zeroI : InstD := ⟨[], [], [], [], 0⟩
structure GotInst (w : World) (base : Nat) (V : Value) (x : InstD) : Prop where
  shape : ∃ v1 v2 v3 v4 es, V = .agg #[v1, v2, v3, v4, .int .i64 x.now] ∧ Is w base v1 x.act ∧ Is w base v2 x.nums ∧ GotPast w base v3 es ∧ es.map (·.1) = x.past ∧ GotTims w base v4 x.tms
def rX (b : List UInt8) : InstD := (instR b).getD zeroI
def rE (b : List UInt8) : Int := if (instR b).isSome then 0 else 4
set_option maxHeartbeats 1000000 in
set_option maxRecDepth 100000 in
theorem piece_any (A : Option Addr) (l : List UInt8) (n c : Nat) (hn : n = l.length) (w : World) (hr : Rd w w.heap.size A (cells l)) (hlc : l.length ≤ c) (hl : l.length ≤ 140737488351232 ∧ c ≤ 9223372036854775807) :
    Calls Try.prog 98 #[.slice A n c] w fun e w' => ∃ v, e = .returned (.tuple #[v, .bool (decide ((openS l).2.2 = 0 ∧ (openS l).2.1 = l.length))]) ∧ Bs w' w.heap.size v (openS l).1 ∧ Below w.heap.size w w' := by
  subst hn
  have hop := Lib.hid (open_any A l l.length c rfl w hr hlc hl)
  have hll := hl.1
  clear hr
  go_enter Try.func98, Try.ntmps98
  go_wp2_with fail
  refine hop.out.mono ?_
  clear hop
  rintro e w1 ⟨v, rfl, hv, hb⟩
  obtain ⟨A1, c1, rfl, -, -, -⟩ := bs_shape hv
  have HF := Lib.hid (And.intro hv hb)
  clear hv hb
  by_cases h1 : (openS l).2.2 = 0
  · by_cases h2 : (openS l).2.1 = l.length
    · have HD : Hid (decide ((openS l).2.2 = 0 ∧ (openS l).2.1 = l.length) = true) := Lib.hid (by simp [h1, h2])
      rw [h1, h2]
      clear h1 h2
      go_wp2
      go_ret2
      exact ⟨.slice A1 (openS l).1.length c1, ret2 rfl (show Value.bool true = Value.bool _ by rw [HD.out]), HF.out.1, HF.out.2⟩
    · have HD : Hid (decide ((openS l).2.2 = 0 ∧ (openS l).2.1 = l.length) = false) := Lib.hid (by simp [h2])
      have h2b : (((openS l).2.1 : Int) == (l.length : Int)) = false := by simpa using (by omega : ((openS l).2.1 : Int) ≠ l.length)
      rw [h1]
      clear h1 h2
      go_wp2
      go_ret2
      exact ⟨.slice A1 (openS l).1.length c1, ret2 rfl (show Value.bool false = Value.bool _ by rw [HD.out]), HF.out.1, HF.out.2⟩
  · have HD : Hid (decide ((openS l).2.2 = 0 ∧ (openS l).2.1 = l.length) = false) := Lib.hid (by simp [h1])
    have h1b : ((openS l).2.2 == 0) = false := by simpa using h1
    clear h1
    go_wp2
    go_ret2
    exact ⟨.slice A1 (openS l).1.length c1, ret2 rfl (show Value.bool false = Value.bool _ by rw [HD.out]), HF.out.1, HF.out.2⟩
theorem openS_len (l : List UInt8) : (openS l).1.length ≤ l.length := by
  unfold openS
  repeat' split
  all_goals simp
  omega
theorem read_fin {P l1 l2 l3 l4 l5 : List UInt8} {b0 b1 b2 b3 b4 b5 : Bool} {z1 z2 : List Int} {ps : List PastD} {ts : List TimD} {n : Int}
    (h1 : RowRel b0 P z1 b1 l1) (h2 : RowRel b1 l1 z2 b2 l2) (h3 : (b3 = true → b2 = true ∨ ((tkN l2).bind fun k => tkRow tkPast k.1 k.2 []) = none) ∧ (b3 = false → b2 = false ∧ ((tkN l2).bind fun k => tkRow tkPast k.1 k.2 []) = some (ps, l3)))
    (h4 : (b4 = true → b3 = true ∨ ((tkN l3).bind fun k => tkRow tkTim k.1 k.2 []) = none) ∧ (b4 = false → b3 = false ∧ ((tkN l3).bind fun k => tkRow tkTim k.1 k.2 []) = some (ts, l4))) (h5 : NumRel b4 l4 n b5 l5) :
    (b5 = false → b0 = false ∧ readI P = if l5 = [] then some ⟨z1, z2, ps, ts, n⟩ else none) ∧ (b5 = true → b0 = true ∨ readI P = none) := by
  have e : readI P = (tkZ P).bind fun a => (tkZ a.2).bind fun n => ((tkN n.2).bind fun k => tkRow tkPast k.1 k.2 []).bind fun ps => ((tkN ps.2).bind fun k2 => tkRow tkTim k2.1 k2.2 []).bind fun ts => (tkI ts.2).bind fun w => if w.2 = [] then some ⟨a.1, n.1, ps.1, ts.1, w.1⟩ else none := by
    unfold readI
    simp only [Option.bind_assoc]
  refine ⟨fun h => ?_, fun h => ?_⟩
  · obtain ⟨c5, d5⟩ := h5.2 h
    obtain ⟨c4, d4⟩ := h4.2 c5
    obtain ⟨c3, d3⟩ := h3.2 c4
    obtain ⟨c2, d2⟩ := h2.2 c3
    obtain ⟨c1, d1⟩ := h1.2 c2
    exact ⟨c1, by rw [e, d1, Option.bind_some, d2, Option.bind_some, d3, Option.bind_some, d4, Option.bind_some, d5, Option.bind_some]⟩
  · rw [e]
    cases h1b : b1 with
    | true =>
      rcases h1.1 h1b with h6 | h6
      · exact .inl h6
      · exact .inr (by rw [h6]; rfl)
    | false =>
      refine .inr ?_
      obtain ⟨_, d1⟩ := h1.2 h1b
      rw [d1, Option.bind_some]
      cases h2b : b2 with
      | true =>
        rcases h2.1 h2b with h6 | h6
        · rw [h1b] at h6; cases h6
        · rw [h6]; rfl
      | false =>
        obtain ⟨_, d2⟩ := h2.2 h2b
        rw [d2, Option.bind_some]
        cases h3b : b3 with
        | true =>
          rcases h3.1 h3b with h6 | h6
          · rw [h2b] at h6; cases h6
          · rw [h6]; rfl
        | false =>
          obtain ⟨_, d3⟩ := h3.2 h3b
          rw [d3, Option.bind_some]
          cases h4b : b4 with
          | true =>
            rcases h4.1 h4b with h6 | h6
            · rw [h3b] at h6; cases h6
            · rw [h6]; rfl
          | false =>
            obtain ⟨_, d4⟩ := h4.2 h4b
            rw [d4, Option.bind_some]
            rcases h5.1 h with h6 | h6
            · rw [h4b] at h6; cases h6
            · rw [h6]; rfl
section
variable {w : World} {g : Nat} {A : Option Addr} {l : List UInt8} {c : Nat} {wr : Bool} {v1 : Value} {z1 : List Int} {v2 : Value} {z2 : List Int} {v3 : Value} {es : List PE} {v4 : Value} {ts : List TimD} {now : Int}
theorem Rd.setCell_ {w : World} {g : Nat} {A : Option Addr} {xs : List Value} (h : Rd w g A xs) (j : Nat) (u : Value) : Rd (w.setCell ⟨g, j, none⟩ u) g A xs :=
  h.keep fun q hq => World.cell?_of_block (Below.heap_setCell w ⟨g, j, none⟩ u q.block (by show q.block ≠ g; omega))
theorem RdrAt.setAct (h : RdrAt w g A l c wr v1 z1 v2 z2 v3 es v4 ts now) {v : Value} {z : List Int} (hv : Is w (g + 1) v z) : RdrAt (w.setCell ⟨g, 2, none⟩ v) g A l c wr v z v2 z2 v3 es v4 ts now :=
  ⟨⟨Blk.set_ h.pl.blk 2 _, h.pl.rd.setCell_ 2 v, h.pl.le, h.pl.cap, h.pl.len⟩, Own.far hv (grown_setCell w g 2 v) (by omega), Own.far h.nums (grown_setCell w g 2 v) (by omega), h.past.far (grown_setCell w g 2 v) (by omega), h.tms.far (grown_setCell w g 2 v) (by omega)⟩
theorem RdrAt.setNums (h : RdrAt w g A l c wr v1 z1 v2 z2 v3 es v4 ts now) {v : Value} {z : List Int} (hv : Is w (g + 1) v z) : RdrAt (w.setCell ⟨g, 3, none⟩ v) g A l c wr v1 z1 v z v3 es v4 ts now :=
  ⟨⟨Blk.set_ h.pl.blk 3 _, h.pl.rd.setCell_ 3 v, h.pl.le, h.pl.cap, h.pl.len⟩, Own.far h.act (grown_setCell w g 3 v) (by omega), Own.far hv (grown_setCell w g 3 v) (by omega), h.past.far (grown_setCell w g 3 v) (by omega), h.tms.far (grown_setCell w g 3 v) (by omega)⟩
theorem RdrAt.setNow (h : RdrAt w g A l c wr v1 z1 v2 z2 v3 es v4 ts now) (n : Int) : RdrAt (w.setCell ⟨g, 6, none⟩ (.int .i64 n)) g A l c wr v1 z1 v2 z2 v3 es v4 ts n :=
  ⟨⟨Blk.set_ h.pl.blk 6 _, h.pl.rd.setCell_ 6 _, h.pl.le, h.pl.cap, h.pl.len⟩, Own.far h.act (grown_setCell w g 6 _) (by omega), Own.far h.nums (grown_setCell w g 6 _) (by omega), h.past.far (grown_setCell w g 6 _) (by omega), h.tms.far (grown_setCell w g 6 _) (by omega)⟩
end
set_option maxRecDepth 100000 in
theorem results_inst {fn : Func} (h : fn.results = #[.cell 2 87, .tmp 3]) (tmps : Array Value) (W : World) (g : Nat) (a b c d e : Value) (hp : tmps[2]?.getD undef = .pointer (some ⟨g, 0, none⟩)) (hB : Blk W g 87 #[a, b, c, d, e]) :
    (results fn tmps).run Try.prog W = .ok (.tuple #[.agg #[a, b, c, d, e], tmps.getD 3 undef]) W := by
  have e0 := hB.cell 0
  have e1 := hB.cell 1
  have e2 := hB.cell 2
  have e3 := hB.cell 3
  have e4 := hB.cell 4
  simp at e0 e1 e2 e3 e4
  simp [results, h, go_sem, hp, e0, e1, e2, e3, e4]
theorem GotPast.grown_far {w w' : World} {base g : Nat} {v : Value} {es : List PE} (h : GotPast w base v es) (hg : w.grownBy w' (some g)) (hlt : g < base) : GotPast w' base v es := h.far hg hlt
def readOut (w : World) (l : List UInt8) (e : Ending) (w' : World) : Prop := ∃ V, e = .returned (.tuple #[V, .int .i64 (rE l)]) ∧ GotInst w' w.heap.size V (rX l) ∧ Below w.heap.size w w'
theorem blk5_fr {w : World} {g : Nat} {t : TypeId} {a b c d e : Value} (h : Blk w g t #[a, b, c, d, e]) :
    (w.cell? ⟨g, 0, none⟩ = some a ∧ w.frozen? ⟨g, 0, none⟩ = false) ∧ (w.cell? ⟨g, 1, none⟩ = some b ∧ w.frozen? ⟨g, 1, none⟩ = false) ∧ (w.cell? ⟨g, 2, none⟩ = some c ∧ w.frozen? ⟨g, 2, none⟩ = false) ∧ (w.cell? ⟨g, 3, none⟩ = some d ∧ w.frozen? ⟨g, 3, none⟩ = false) ∧ (w.cell? ⟨g, 4, none⟩ = some e ∧ w.frozen? ⟨g, 4, none⟩ = false) :=
  ⟨⟨h.cell 0, h.frozen 0⟩, ⟨h.cell 1, h.frozen 1⟩, ⟨h.cell 2, h.frozen 2⟩, ⟨h.cell 3, h.frozen 3⟩, ⟨h.cell 4, h.frozen 4⟩⟩
theorem readOut_none {w W : World} {l : List UInt8} (h : instR l = none) (hb : Below w.heap.size w W) : readOut w l (.returned (.tuple #[.agg #[.slice none 0 0, .slice none 0 0, .slice none 0 0, .slice none 0 0, .int .i64 0], .int .i64 4])) W :=
  ⟨_, by unfold rE; rw [h]; rfl, ⟨_, _, _, _, [], by unfold rX; rw [h]; rfl, by unfold rX; rw [h]; exact Own.nil _ _ _, by unfold rX; rw [h]; exact Own.nil _ _ _, GotPast.nil _ _, by unfold rX; rw [h]; rfl, by unfold rX; rw [h]; exact GotTims.nil _ _⟩, hb⟩
theorem grown_s5 (w : World) (g : Nat) (a b c d e : Value) : w.grownBy (((((w.setCell ⟨g, 0, none⟩ a).setCell ⟨g, 1, none⟩ b).setCell ⟨g, 2, none⟩ c).setCell ⟨g, 3, none⟩ d).setCell ⟨g, 4, none⟩ e) (some g) :=
  grown_then (grown_then (grown_then (grown_then (grown_setCell w g 0 a) (grown_setCell _ g 1 b) (.inl rfl)) (grown_setCell _ g 2 c) (.inl rfl)) (grown_setCell _ g 3 d) (.inl rfl)) (grown_setCell _ g 4 e) (.inl rfl)
theorem readOut_some {w W : World} {l : List UInt8} {g : Nat} {A : Option Addr} {l' : List UInt8} {c : Nat} {wr : Bool} {v1 v2 v3 v4 : Value} {z1 z2 : List Int} {es : List PE} {ts : List TimD} {now : Int} (h : instR l = some ⟨z1, z2, es.map (·.1), ts, now⟩) (hR : RdrAt W g A l' c wr v1 z1 v2 z2 v3 es v4 ts now) (hg : w.heap.size + 1 ≤ g)
    (hb : Below w.heap.size w (((((W.setCell ⟨w.heap.size, 0, none⟩ v1).setCell ⟨w.heap.size, 1, none⟩ v2).setCell ⟨w.heap.size, 2, none⟩ v3).setCell ⟨w.heap.size, 3, none⟩ v4).setCell ⟨w.heap.size, 4, none⟩ (.int .i64 now))) :
    readOut w l (.returned (.tuple #[.agg #[v1, v2, v3, v4, .int .i64 now], .int .i64 0])) (((((W.setCell ⟨w.heap.size, 0, none⟩ v1).setCell ⟨w.heap.size, 1, none⟩ v2).setCell ⟨w.heap.size, 2, none⟩ v3).setCell ⟨w.heap.size, 3, none⟩ v4).setCell ⟨w.heap.size, 4, none⟩ (.int .i64 now)) := by
  have hs := grown_s5 W w.heap.size v1 v2 v3 v4 (.int .i64 now)
  refine ⟨_, by unfold rE; rw [h]; rfl, ⟨v1, v2, v3, v4, es, by unfold rX; rw [h]; rfl, by unfold rX; rw [h]; exact Own.mono (Own.far hR.act hs (by omega)) (by omega), by unfold rX; rw [h]; exact Own.mono (Own.far hR.nums hs (by omega)) (by omega), (hR.past.far hs (by omega)).mono (by omega), by unfold rX; rw [h]; rfl, ?_⟩, hb⟩
  unfold rX
  rw [h]
  have h5 := hR.tms.far hs (by omega)
  refine ⟨h5.1, ?_⟩
  rcases h5.2 with h2 | ⟨g', cap, cur, hv, hb2, r⟩
  · exact .inl h2
  · exact .inr ⟨g', cap, cur, hv, by omega, r⟩
set_option maxHeartbeats 4000000 in
set_option maxRecDepth 100000 in
theorem imageRead_any (A : Option Addr) (l : List UInt8) (n c : Nat) (hn : n = l.length) (w : World) (hr : Rd w w.heap.size A (cells l)) (hlc : l.length ≤ c) (hl : l.length ≤ 140737488351232 ∧ c ≤ 9223372036854775807) :
    Calls Try.prog 70 #[.slice A n c] w (readOut w l) := by
  subst hn
  have hb0 := (Below.refl w.heap.size w).alloc (Nat.le_refl _) (.cells #[.slice none 0 0, .slice none 0 0, .slice none 0 0, .slice none 0 0, .int .i64 0] 87)
  have hK0 := Lib.hid (Blk.new w 87 #[.slice none 0 0, .slice none 0 0, .slice none 0 0, .slice none 0 0, .int .i64 0])
  have hs0 : w.heap.size + 1 ≤ (w.alloc (.cells #[.slice none 0 0, .slice none 0 0, .slice none 0 0, .slice none 0 0, .int .i64 0] 87)).heap.size := by simp
  have hrd := Lib.hid ((hr.below hb0).more hb0.size)
  have HB0 := Lib.hid hb0
  have HL := Lib.hid hl
  clear hr hb0
  go_enter Try.func70, Try.ntmps70
  go_upto_region 1 with fail
  generalize w.alloc (.cells #[.slice none 0 0, .slice none 0 0, .slice none 0 0, .slice none 0 0, .int .i64 0] 87) = w0 at hK0 hs0 hrd HB0 ⊢
  have hpc := Lib.hid (piece_any A l l.length c rfl w0 hrd.out hlc HL.out)
  clear hrd hl
  go_wp2_with fail
  refine hpc.out.mono ?_
  clear hpc
  rintro e w1 ⟨v, rfl, hv, hb1⟩
  obtain ⟨Ap, cp, rfl, hcp, hcp2, -⟩ := bs_shape hv
  have hrp := own_rd hv
  have hs1 : w0.heap.size ≤ w1.heap.size := hb1.size
  obtain ⟨ok, hok⟩ : ∃ b, b = decide ((openS l).2.2 = 0 ∧ (openS l).2.1 = l.length) := ⟨_, rfl⟩
  rw [← hok]
  have HOK := Lib.hid hok
  have hpl : (openS l).1.length ≤ 140737488351232 := Nat.le_trans (openS_len l) HL.out.1
  have hIR : Hid (instR l = if ok = true then readI (openS l).1 else none) := Lib.hid (by rw [hok]; unfold instR; simp)
  have HK1 := Lib.hid (hK0.out.below hb1 (by omega))
  have HB1 := Lib.hid (HB0.out.trans (hb1.mono (by omega)))
  clear hok hb1 hv hK0 HB0
  generalize (openS l).1 = P at hrp hcp hpl hIR ⊢
  have hbG := (Below.refl w1.heap.size w1).alloc (Nat.le_refl _) (.cells #[.slice Ap P.length cp, .bool !ok, .slice none 0 0, .slice none 0 0, .slice none 0 0, .slice none 0 0, .int .i64 0] 143)
  have hR2 : RdrAt (w1.alloc (.cells #[.slice Ap P.length cp, .bool !ok, .slice none 0 0, .slice none 0 0, .slice none 0 0, .slice none 0 0, .int .i64 0] 143)) w1.heap.size Ap P cp (!ok) (.slice none 0 0) [] (.slice none 0 0) [] (.slice none 0 0) [] (.slice none 0 0) [] 0 :=
    ⟨⟨Blk.new w1 _ _, hrp.below hbG, hcp, hcp2, hpl⟩, Own.nil _ _ _, Own.nil _ _ _, GotPast.nil _ _, GotTims.nil _ _⟩
  have HR2 := Lib.hid hR2
  have HK2 := Lib.hid (HK1.out.below hbG (by omega))
  have HB2 := Lib.hid (HB1.out.trans (hbG.mono (by omega)))
  clear hR2 hbG hrp HK1 HB1
  go_upto_region 3 with fail
  generalize w1.alloc (.cells #[.slice Ap P.length cp, .bool !ok, .slice none 0 0, .slice none 0 0, .slice none 0 0, .slice none 0 0, .int .i64 0] 143) = w2 at HR2 HK2 HB2 ⊢
  obtain ⟨g, hg⟩ : ∃ g, g = w1.heap.size := ⟨_, rfl⟩
  rw [← hg] at HR2 ⊢
  have hgw : w.heap.size + 1 ≤ g := by omega
  clear hg
  have hcall := Lib.hid (rrow_any w2 g Ap P cp (!ok) (.slice none 0 0) [] (.slice none 0 0) [] (.slice none 0 0) [] (.slice none 0 0) [] 0 HR2.out)
  have hgl2 : g < w2.heap.size := HR2.out.pl.blk.lt
  go_wp2_with fail
  refine hcall.out.mono ?_
  clear hcall
  rintro e w3 ⟨v3x, z3, A3, l3, c3, b3, rfl, hv3, hR3, hg3, hrel3⟩
  obtain ⟨Av3, cv3, rfl, -, -, -⟩ := is_shape hv3
  have hR3s := hR3.setAct (Own.mono hv3 (by omega : g + 1 ≤ w2.heap.size))
  obtain ⟨_, ⟨f0, f1, f2, f3, f4, f5, f6⟩⟩ := blk7_at hR3.pl.blk
  obtain ⟨⟨k0, k1, k2, k3, k4, k5, k6⟩, _⟩ := blk7_at hR3.pl.blk
  have hgs3 := grown_then hg3 (grown_setCell w3 g 2 (.slice Av3 z3.length cv3)) (.inl rfl)
  have hB3 := HB2.out.grown hgs3 HB2.out.size (fun j hj => by injection hj with hj; omega)
  have hK3 := HK2.out.grown hgs3 (fun e => by injection e with e; omega)
  have HR3 := Lib.hid hR3s
  have HB3 := Lib.hid hB3
  have HK3 := Lib.hid hK3
  have HREL3 := Lib.hid hrel3
  clear hv3 hR3 hR3s hg3 hgs3 hB3 hK3 hrel3 HR2 HB2 HK2
  go_upto_region 4 with fail
  clear k0 k1 k2 k3 k4 k5 k6 f0 f1 f2 f3 f4 f5 f6
  generalize w3.setCell ⟨g, 2, none⟩ (.slice Av3 z3.length cv3) = w3a at HR3 HB3 HK3 ⊢
  obtain ⟨w3, hw3⟩ : ∃ u, u = w3a := ⟨_, rfl⟩
  subst hw3
  have hcall := Lib.hid (rrow_any w3 g A3 l3 c3 b3 (.slice Av3 z3.length cv3) z3 (.slice none 0 0) [] (.slice none 0 0) [] (.slice none 0 0) [] 0 HR3.out)
  have hgl3 : g < w3.heap.size := HR3.out.pl.blk.lt
  go_wp2_with fail
  refine hcall.out.mono ?_
  clear hcall
  rintro e w4 ⟨v4x, z4, A4, l4, c4, b4, rfl, hv4, hR4, hg4, hrel4⟩
  obtain ⟨Av4, cv4, rfl, -, -, -⟩ := is_shape hv4
  have hR4s := hR4.setNums (Own.mono hv4 (by omega : g + 1 ≤ w3.heap.size))
  obtain ⟨_, ⟨f0, f1, f2, f3, f4, f5, f6⟩⟩ := blk7_at hR4.pl.blk
  obtain ⟨⟨k0, k1, k2, k3, k4, k5, k6⟩, _⟩ := blk7_at hR4.pl.blk
  have hgs4 := grown_then hg4 (grown_setCell w4 g 3 (.slice Av4 z4.length cv4)) (.inl rfl)
  have hB4 := HB3.out.grown hgs4 HB3.out.size (fun j hj => by injection hj with hj; omega)
  have hK4 := HK3.out.grown hgs4 (fun e => by injection e with e; omega)
  have HR4 := Lib.hid hR4s
  have HB4 := Lib.hid hB4
  have HK4 := Lib.hid hK4
  have HREL4 := Lib.hid hrel4
  clear hv4 hR4 hR4s hg4 hgs4 hB4 hK4 hrel4 HR3 HB3 HK3
  go_upto_region 5 with fail
  clear k0 k1 k2 k3 k4 k5 k6 f0 f1 f2 f3 f4 f5 f6
  generalize w4.setCell ⟨g, 3, none⟩ (.slice Av4 z4.length cv4) = w4a at HR4 HB4 HK4 ⊢
  obtain ⟨w4, hw4⟩ : ∃ u, u = w4a := ⟨_, rfl⟩
  subst hw4
  have hcall := Lib.hid (reachone_any w4 g A4 l4 c4 b4 (.slice Av3 z3.length cv3) z3 (.slice Av4 z4.length cv4) z4 (.slice none 0 0) [] (.slice none 0 0) [] 0 rfl HR4.out)
  have hgl4 : g < w4.heap.size := HR4.out.pl.blk.lt
  go_wp2_with fail
  refine hcall.out.mono ?_
  clear hcall
  rintro e w5 ⟨x5, v5x, A5, l5, c5, b5, rfl, hR5, hb5, hrel5a, hrel5b⟩
  have HR5 := Lib.hid hR5
  have HB5 := Lib.hid (HB4.out.trans (hb5.mono (by omega)))
  have HK5 := Lib.hid (HK4.out.below hb5 (by omega))
  have HREL5 := Lib.hid (And.intro hrel5a hrel5b)
  clear hR5 hb5 hrel5a hrel5b HR4 HB4 HK4
  have hcall := Lib.hid (reachtimer_any w5 g A5 l5 c5 b5 (.slice Av3 z3.length cv3) z3 (.slice Av4 z4.length cv4) z4 v5x x5 (.slice none 0 0) [] 0 rfl HR5.out)
  have hgl5 : g < w5.heap.size := HR5.out.pl.blk.lt
  go_wp2_with fail
  refine hcall.out.mono ?_
  clear hcall
  rintro e w6 ⟨x6, v6x, A6, l6, c6, b6, rfl, hR6, hb6, hrel6a, hrel6b⟩
  have HR6 := Lib.hid hR6
  have HB6 := Lib.hid (HB5.out.trans (hb6.mono (by omega)))
  have HK6 := Lib.hid (HK5.out.below hb6 (by omega))
  have HREL6 := Lib.hid (And.intro hrel6a hrel6b)
  clear hR6 hb6 hrel6a hrel6b HR5 HB5 HK5
  have hcall := Lib.hid (rnum_any w6 g A6 l6 c6 b6 (.slice Av3 z3.length cv3) z3 (.slice Av4 z4.length cv4) z4 v5x x5 v6x x6 0 HR6.out)
  have hgl6 : g < w6.heap.size := HR6.out.pl.blk.lt
  go_wp2_with fail
  refine hcall.out.mono ?_
  clear hcall
  rintro e w7 ⟨n7, A7, l7, c7, b7, rfl, hR7, hg7, hrel7⟩
  have hR7s := hR7.setNow n7
  obtain ⟨⟨k0, k1, k2, k3, k4, k5, k6⟩, ⟨f0, f1, f2, f3, f4, f5, f6⟩⟩ := blk7_at hR7.pl.blk
  have hgs7 := grown_then hg7 (grown_setCell w7 g 6 (.int .i64 n7)) (.inl rfl)
  have hB7 := HB6.out.grown hgs7 HB6.out.size (fun j hj => by injection hj with hj; omega)
  have hK7 := HK6.out.grown hgs7 (fun e => by injection e with e; omega)
  have HR7 := Lib.hid hR7s
  have HB7 := Lib.hid hB7
  have HK7 := Lib.hid hK7
  have HF := Lib.hid (read_fin HREL3.out HREL4.out HREL5.out HREL6.out hrel7)
  clear hR7 hR7s hg7 hgs7 hB7 hK7 hrel7 HR6 HB6 HK6 HREL3 HREL4 HREL5 HREL6
  go_upto_region 8 with fail
  clear k0 k1 k2 k3 k4 k5 k6 f0 f1 f2 f3 f4 f5 f6
  generalize w7.setCell ⟨g, 6, none⟩ (.int .i64 n7) = w8 at HR7 HB7 HK7 ⊢
  obtain ⟨⟨k0, k1, k2, k3, k4, k5, k6⟩, _⟩ := blk7_at HR7.out.pl.blk
  obtain ⟨⟨e0, f0⟩, ⟨e1, f1⟩, ⟨e2, f2⟩, ⟨e3, f3⟩, ⟨e4, f4⟩⟩ := blk5_fr HK7.out
  cases b7 with
  | true =>
    have HN : Hid (instR l = none) := Lib.hid (by
      rw [hIR.out]
      rcases HF.out.2 rfl with h | h
      · have : ok = false := by simpa using h
        rw [this]; rfl
      · cases ok <;> simp [h])
    have hz := HK7.out.set_ 0 (.slice none 0 0)
    have KF := Lib.hid ((((hz.set_ 1 (.slice none 0 0)).set_ 2 (.slice none 0 0)).set_ 3 (.slice none 0 0)).set_ 4 (.int .i64 0))
    have HBF := Lib.hid (((((HB7.out.setCell (p := ⟨w.heap.size, 0, none⟩) (Nat.le_refl _) (.slice none 0 0)).setCell (p := ⟨w.heap.size, 1, none⟩) (Nat.le_refl _) (.slice none 0 0)).setCell (p := ⟨w.heap.size, 2, none⟩) (Nat.le_refl _) (.slice none 0 0)).setCell (p := ⟨w.heap.size, 3, none⟩) (Nat.le_refl _) (.slice none 0 0)).setCell (p := ⟨w.heap.size, 4, none⟩) (Nat.le_refl _) (.int .i64 0))
    clear hz HB7 HK7 HR7 HF hIR HOK
    go_wp2_with fail
    refine bodyPost_ret (results_inst (fn := Try.f70) rfl _ _ w.heap.size _ _ _ _ _ rfl KF.out) rfl ?_
    exact readOut_none HN.out HBF.out
  | false =>
    rcases Nat.eq_zero_or_pos l7.length with h0 | h0
    · have hl0 : l7 = [] := List.length_eq_zero_iff.1 h0
      have HI : Hid (instR l = some ⟨z3, z4, x5.map (·.1), x6, n7⟩) := Lib.hid (by
        obtain ⟨h1, h2⟩ := HF.out.1 rfl
        have : ok = true := by simpa using h1
        rw [hIR.out, this, if_pos rfl, h2, if_pos hl0])
      rw [h0] at k0
      obtain ⟨A3v, c3v, hv3, -, -, -⟩ := own_row_shape HR7.out.past.own
      obtain ⟨A4v, c4v, hv4, -, -, -⟩ := own_row_shape HR7.out.tms
      rw [hv3] at k4
      rw [hv4] at k5
      have hz := HK7.out.set_ 0 (.slice Av3 z3.length cv3)
      have KF := Lib.hid ((((hz.set_ 1 (.slice Av4 z4.length cv4)).set_ 2 (.slice A3v x5.length c3v)).set_ 3 (.slice A4v x6.length c4v)).set_ 4 (.int .i64 n7))
      have HBF := Lib.hid (((((HB7.out.setCell (p := ⟨w.heap.size, 0, none⟩) (Nat.le_refl _) (.slice Av3 z3.length cv3)).setCell (p := ⟨w.heap.size, 1, none⟩) (Nat.le_refl _) (.slice Av4 z4.length cv4)).setCell (p := ⟨w.heap.size, 2, none⟩) (Nat.le_refl _) (.slice A3v x5.length c3v)).setCell (p := ⟨w.heap.size, 3, none⟩) (Nat.le_refl _) (.slice A4v x6.length c4v)).setCell (p := ⟨w.heap.size, 4, none⟩) (Nat.le_refl _) (.int .i64 n7))
      have HRR := Lib.hid HR7.out
      have HV := Lib.hid (And.intro hv3 hv4)
      clear hz HB7 HK7 HR7 HF hIR HOK h0 hl0 hv3 hv4
      go_wp2_with fail
      refine bodyPost_ret (results_inst (fn := Try.f70) rfl _ _ w.heap.size _ _ _ _ _ rfl KF.out) rfl ?_
      exact readOut_some HI.out (HV.out.1 ▸ HV.out.2 ▸ HRR.out) hgw HBF.out
    · have HN : Hid (instR l = none) := Lib.hid (by
        obtain ⟨h1, h2⟩ := HF.out.1 rfl
        have : ok = true := by simpa using h1
        have hne : l7 ≠ [] := fun e => by rw [e] at h0; simp at h0
        rw [hIR.out, this, if_pos rfl, h2, if_neg hne])
      have h0I : (0 : Int) < l7.length := by omega
      clear h0
      have hz := HK7.out.set_ 0 (.slice none 0 0)
      have KF := Lib.hid ((((hz.set_ 1 (.slice none 0 0)).set_ 2 (.slice none 0 0)).set_ 3 (.slice none 0 0)).set_ 4 (.int .i64 0))
      have HBF := Lib.hid (((((HB7.out.setCell (p := ⟨w.heap.size, 0, none⟩) (Nat.le_refl _) (.slice none 0 0)).setCell (p := ⟨w.heap.size, 1, none⟩) (Nat.le_refl _) (.slice none 0 0)).setCell (p := ⟨w.heap.size, 2, none⟩) (Nat.le_refl _) (.slice none 0 0)).setCell (p := ⟨w.heap.size, 3, none⟩) (Nat.le_refl _) (.slice none 0 0)).setCell (p := ⟨w.heap.size, 4, none⟩) (Nat.le_refl _) (.int .i64 0))
      clear hz HB7 HK7 HR7 HF hIR HOK
      go_wp2_with fail
      refine bodyPost_ret (results_inst (fn := Try.f70) rfl _ _ w.heap.size _ _ _ _ _ rfl KF.out) rfl ?_
      exact readOut_none HN.out HBF.out
end Go.Proofs.Ytaadbklimfngiaa
