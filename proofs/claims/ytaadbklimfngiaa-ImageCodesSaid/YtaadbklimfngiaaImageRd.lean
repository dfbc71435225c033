/- A reader of an instance's bytes (image.reader). Condition: the reader is a call's own. -/
import Derived.Test.YtaadbklimfngiaaImagePage
import Derived.Test.YtaadbklimfngiaaKeepRead
set_option linter.unusedVariables false
namespace Go.Proofs.Ytaadbklimfngiaa
open Go.RowKit Oct

theorem blk7_at {w : World} {g : Nat} {t : TypeId} {a b c d e f h : Value} (H : Blk w g t #[a, b, c, d, e, f, h]) :
    (w.cell? ⟨g, 0, none⟩ = some a ∧ w.cell? ⟨g, 1, none⟩ = some b ∧ w.cell? ⟨g, 2, none⟩ = some c ∧ w.cell? ⟨g, 3, none⟩ = some d ∧ w.cell? ⟨g, 4, none⟩ = some e ∧ w.cell? ⟨g, 5, none⟩ = some f ∧ w.cell? ⟨g, 6, none⟩ = some h) ∧
    (w.frozen? ⟨g, 0, none⟩ = false ∧ w.frozen? ⟨g, 1, none⟩ = false ∧ w.frozen? ⟨g, 2, none⟩ = false ∧ w.frozen? ⟨g, 3, none⟩ = false ∧ w.frozen? ⟨g, 4, none⟩ = false ∧ w.frozen? ⟨g, 5, none⟩ = false ∧ w.frozen? ⟨g, 6, none⟩ = false) :=
  ⟨⟨H.cell 0, H.cell 1, H.cell 2, H.cell 3, H.cell 4, H.cell 5, H.cell 6⟩, ⟨H.frozen 0, H.frozen 1, H.frozen 2, H.frozen 3, H.frozen 4, H.frozen 5, H.frozen 6⟩⟩
/-- What is left of the bytes. -/
def leftL (wr : Bool) (e : Int) (l : List UInt8) (used : Nat) : List UInt8 := if (wr || decide (e ≠ 0)) = true then l else l.drop used
/-- A reader's place. -/
structure PlAt (w : World) (g : Nat) (A : Option Addr) (l : List UInt8) (c : Nat) (wr : Bool) (v1 v2 v3 v4 v5 : Value) : Prop where
  blk : Blk w g 143 #[.slice A l.length c, .bool wr, v1, v2, v3, v4, v5]
  rd : Rd w g A (cells l)
  le : l.length ≤ c
  cap : c ≤ 9223372036854775807
  len : l.length ≤ 140737488351232
theorem PlAt.below {w w' : World} {g : Nat} {A : Option Addr} {l : List UInt8} {c : Nat} {wr : Bool} {v1 v2 v3 v4 v5 : Value} (h : PlAt w g A l c wr v1 v2 v3 v4 v5) {B : Nat} (hb : Below B w w') (hB : g < B) : PlAt w' g A l c wr v1 v2 v3 v4 v5 :=
  ⟨h.blk.below hb hB, h.rd.below (hb.mono (by omega)), h.le, h.cap, h.len⟩
set_option maxHeartbeats 1000000 in
set_option maxRecDepth 100000 in
theorem took_any (g : Nat) (A : Option Addr) (l : List UInt8) (c : Nat) (wr : Bool) (v1 v2 v3 v4 v5 : Value) (used : Nat) (e : Int) (w : World) (hP : PlAt w g A l c wr v1 v2 v3 v4 v5) (hu : used ≤ l.length) :
    Calls Try.prog 115 #[.pointer (some ⟨g, 0, none⟩), .int .i64 used, .int .i64 e] w fun x w' => ∃ A' c', x = .returned (.bool (!(wr || decide (e ≠ 0)))) ∧ PlAt w' g A' (leftL wr e l used) c' (wr || decide (e ≠ 0)) v1 v2 v3 v4 v5 ∧ w.grownBy w' (some g) := by
  have HP := Lib.hid hP
  obtain ⟨⟨k0, k1, k2, k3, k4, k5, k6⟩, ⟨f0, f1, f2, f3, f4, f5, f6⟩⟩ := blk7_at hP.blk
  have hgl : g < w.heap.size := hP.blk.lt
  have HBAD : Hid (PlAt (w.setCell ⟨g, 1, none⟩ (.bool true)) g A l c true v1 v2 v3 v4 v5 ∧ w.grownBy (w.setCell ⟨g, 1, none⟩ (.bool true)) (some g)) :=
    Lib.hid ⟨⟨Blk.set_ hP.blk 1 _, hP.rd.keep fun p hp => World.cell?_of_block (Below.heap_setCell w ⟨g, 1, none⟩ (.bool true) p.block (by show p.block ≠ g; omega)), hP.le, hP.cap, hP.len⟩, grown_setCell w g 1 _⟩
  by_cases h1 : wr = true
  · subst h1
    clear hP HP
    go_enter Try.func115, Try.ntmps115
    go_wp2
    go_ret
    exact ⟨A, c, rfl, HBAD.out⟩
  · have h1' : wr = false := by simpa using h1
    subst h1'
    by_cases h2 : e = 0
    · subst h2
      have hlc := hP.le
      have hcc := hP.cap
      have hlen := hP.len
      have hcut := fun W : World => run_cut_from (P := Try.prog) Try.underlying22 info_u8 A l.length c used hu (used : Int) rfl W
      have hgr : w.grownBy ((w.setCell ⟨g, 1, none⟩ (.bool false)).setCell ⟨g, 0, none⟩ (.slice (cutA A used c) (l.length - used) (c - used))) (some g) := grown_then (grown_setCell w g 1 _) (grown_setCell _ g 0 _) (.inl rfl)
      have HG : Hid (PlAt ((w.setCell ⟨g, 1, none⟩ (.bool false)).setCell ⟨g, 0, none⟩ (.slice (cutA A used c) (l.length - used) (c - used))) g (cutA A used c) (leftL false 0 l used) (c - used) false v1 v2 v3 v4 v5 ∧ w.grownBy ((w.setCell ⟨g, 1, none⟩ (.bool false)).setCell ⟨g, 0, none⟩ (.slice (cutA A used c) (l.length - used) (c - used))) (some g)) := Lib.hid ⟨by
        have e1 : leftL false 0 l used = l.drop used := by unfold leftL; rw [if_neg (by simp)]
        rw [e1]
        refine ⟨by rw [List.length_drop]; exact (Blk.set_ hP.blk 1 _).set_ 0 _, ?_, by rw [List.length_drop]; omega, by omega, by rw [List.length_drop]; omega⟩
        have h3 := (hP.rd.cutA (k := used) (cap := c) (by rw [cells_length]; exact hu) (by rw [cells_length]; exact hlc))
        have e2 : (cells l).drop used = cells (l.drop used) := by simp [cells, List.map_drop]
        rw [e2] at h3
        exact h3.keep fun p hp => World.cell?_of_block (hgr.block p.block (by omega) (by intro e; injection e with e; omega)), hgr⟩
      clear hP h1 HBAD hgr HP
      go_enter Try.func115, Try.ntmps115
      go_wp2
      go_ret
      exact ⟨_, _, rfl, HG.out⟩
    · have h2b : (e != 0) = true := by simpa using h2
      have HE : Hid ((false || decide (e ≠ 0)) = true) := Lib.hid (by simp [h2])
      clear hP HP h1 h2
      go_enter Try.func115, Try.ntmps115
      go_wp2
      go_ret
      refine ⟨A, c, ?_⟩
      unfold leftL
      rw [HE.out, if_pos rfl]
      exact ⟨rfl, HBAD.out⟩
theorem GotPast.far {w w' : World} {base g : Nat} {v : Value} {es : List PE} (h : GotPast w base v es) (hg : w.grownBy w' (some g)) (hlt : g < base) : GotPast w' base v es := by
  refine ⟨World.ownsRow.kept h.own hg ?_, fun e he => Own.far (h.got e he) hg hlt⟩
  cases hv : v.ownBlock with
  | none => exact .inl rfl
  | some q => exact .inr fun e => by injection e with e; have := (World.ownsRow.lt h.own q hv).1; omega
theorem GotTims.far {w w' : World} {base g : Nat} {v : Value} {ts : List TimD} (h : GotTims w base v ts) (hg : w.grownBy w' (some g)) (hlt : g < base) : GotTims w' base v ts := by
  refine World.ownsRow.kept h hg ?_
  cases hv : v.ownBlock with
  | none => exact .inl rfl
  | some q => exact .inr fun e => by injection e with e; have := (World.ownsRow.lt h q hv).1; omega
/-- A reader in memory: what is left, and what it has read. -/
structure RdrAt (w : World) (g : Nat) (A : Option Addr) (l : List UInt8) (c : Nat) (wr : Bool) (v1 : Value) (z1 : List Int) (v2 : Value) (z2 : List Int) (v3 : Value) (es : List PE) (v4 : Value) (ts : List TimD) (now : Int) : Prop where
  pl : PlAt w g A l c wr v1 v2 v3 v4 (.int .i64 now)
  act : Is w (g + 1) v1 z1
  nums : Is w (g + 1) v2 z2
  past : GotPast w (g + 1) v3 es
  tms : GotTims w (g + 1) v4 ts
theorem RdrAt.grown {w w' : World} {g : Nat} {A A' : Option Addr} {l l' : List UInt8} {c c' : Nat} {wr wr' : Bool} {v1 : Value} {z1 : List Int} {v2 : Value} {z2 : List Int} {v3 : Value} {es : List PE} {v4 : Value} {ts : List TimD} {now : Int}
    (h : RdrAt w g A l c wr v1 z1 v2 z2 v3 es v4 ts now) (hP : PlAt w' g A' l' c' wr' v1 v2 v3 v4 (.int .i64 now)) (hg : w.grownBy w' (some g)) : RdrAt w' g A' l' c' wr' v1 z1 v2 z2 v3 es v4 ts now :=
  ⟨hP, Own.far h.act hg (by omega), Own.far h.nums hg (by omega), h.past.far hg (by omega), h.tms.far hg (by omega)⟩
def NumRel (wr : Bool) (l : List UInt8) (n : Int) (wr' : Bool) (l' : List UInt8) : Prop := (wr' = true → wr = true ∨ tkI l = none) ∧ (wr' = false → wr = false ∧ tkI l = some (n, l'))
def RowRel (wr : Bool) (l : List UInt8) (z : List Int) (wr' : Bool) (l' : List UInt8) : Prop := (wr' = true → wr = true ∨ tkZ l = none) ∧ (wr' = false → wr = false ∧ tkZ l = some (z, l'))
theorem num_rel (wr : Bool) (l : List UInt8) : NumRel wr l (unfold1 (takeU maxU l).1) (wr || decide ((takeU maxU l).2.2 ≠ 0)) (leftL wr (takeU maxU l).2.2 l (takeU maxU l).2.1) := by
  unfold NumRel tkI leftL
  cases wr <;> by_cases h : (takeU maxU l).2.2 = 0 <;> simp [h]
theorem row_rel (wr : Bool) (l : List UInt8) : RowRel wr l (takeZ l).1 (wr || decide ((takeZ l).2.2 ≠ 0)) (leftL wr (takeZ l).2.2 l (takeZ l).2.1) := by
  unfold RowRel tkZ leftL
  cases wr <;> by_cases h : (takeZ l).2.2 = 0 <;> simp [h]
set_option maxRecDepth 100000 in
theorem rnum_any (w : World) (g : Nat) (A : Option Addr) (l : List UInt8) (c : Nat) (wr : Bool) (v1 : Value) (z1 : List Int) (v2 : Value) (z2 : List Int) (v3 : Value) (es : List PE) (v4 : Value) (ts : List TimD) (now : Int) (hR : RdrAt w g A l c wr v1 z1 v2 z2 v3 es v4 ts now) :
    Calls Try.prog 103 #[.pointer (some ⟨g, 0, none⟩)] w fun e w' => ∃ n A' l' c' wr', e = .returned (.int .i64 n) ∧ RdrAt w' g A' l' c' wr' v1 z1 v2 z2 v3 es v4 ts now ∧ w.grownBy w' (some g) ∧ NumRel wr l n wr' l' := by
  have HR := Lib.hid hR
  have hgl : g < w.heap.size := hR.pl.blk.lt
  obtain ⟨⟨k0, _, _, _, _, _, _⟩, _⟩ := blk7_at hR.pl.blk
  have htk := Lib.hid (takeInt_any A l c w (hR.pl.rd.more (Nat.le_of_lt hgl)) (by have := hR.pl.len; omega))
  have hu := takeU_used maxU l
  clear hR
  go_enter Try.func103, Try.ntmps103
  go_wp2_with fail
  refine htk.out.mono ?_
  clear htk k0
  rintro e w1 ⟨rfl, hb1⟩
  have htook := Lib.hid (took_any g A l c wr v1 v2 v3 v4 (.int .i64 now) (takeU maxU l).2.1 (takeU maxU l).2.2 w1 (HR.out.pl.below hb1 hgl) hu)
  go_wp2_with fail
  refine htook.out.mono ?_
  clear htook
  rintro e w2 ⟨A', c', rfl, hP, hg⟩
  have hg2 : w.grownBy w2 (some g) := grown_then (grown_of_below hb1 (some g)) hg (.inl rfl)
  have HF := Lib.hid (And.intro (HR.out.grown hP hg2) hg2)
  clear hP hg hg2 hb1
  go_wp2
  go_ret
  exact ⟨_, A', _, c', _, rfl, HF.out.1, HF.out.2, num_rel wr l⟩
set_option maxRecDepth 100000 in
theorem rrow_any (w : World) (g : Nat) (A : Option Addr) (l : List UInt8) (c : Nat) (wr : Bool) (v1 : Value) (z1 : List Int) (v2 : Value) (z2 : List Int) (v3 : Value) (es : List PE) (v4 : Value) (ts : List TimD) (now : Int) (hR : RdrAt w g A l c wr v1 z1 v2 z2 v3 es v4 ts now) :
    Calls Try.prog 99 #[.pointer (some ⟨g, 0, none⟩)] w fun e w' => ∃ v z A' l' c' wr', e = .returned v ∧ Is w' w.heap.size v z ∧ RdrAt w' g A' l' c' wr' v1 z1 v2 z2 v3 es v4 ts now ∧ w.grownBy w' (some g) ∧ RowRel wr l z wr' l' := by
  have HR := Lib.hid hR
  have hgl : g < w.heap.size := hR.pl.blk.lt
  obtain ⟨⟨k0, _, _, _, _, _, _⟩, _⟩ := blk7_at hR.pl.blk
  have htk := Lib.hid (takeInts_any A l c w (hR.pl.rd.more (Nat.le_of_lt hgl)) (by have := hR.pl.len; omega))
  have hu := takeZ_used l
  clear hR
  go_enter Try.func99, Try.ntmps99
  go_wp2_with fail
  refine htk.out.mono ?_
  clear htk k0
  rintro e w1 ⟨v, rfl, hv, hb1⟩
  obtain ⟨Av, cv, rfl, -, -, -⟩ := is_shape hv
  have htook := Lib.hid (took_any g A l c wr v1 v2 v3 v4 (.int .i64 now) (takeZ l).2.1 (takeZ l).2.2 w1 (HR.out.pl.below hb1 hgl) hu)
  go_wp2_with fail
  refine htook.out.mono ?_
  clear htook
  rintro e w2 ⟨A', c', rfl, hP, hg⟩
  have hg2 : w.grownBy w2 (some g) := grown_then (grown_of_below hb1 (some g)) hg (.inl rfl)
  have HF := Lib.hid (And.intro (HR.out.grown hP hg2) (And.intro hg2 (Own.far hv hg hgl)))
  clear hP hg hg2 hb1 hv
  go_wp2
  go_ret
  exact ⟨_, _, A', _, c', _, rfl, HF.out.2.2, HF.out.1, HF.out.2.1, row_rel wr l⟩
end Go.Proofs.Ytaadbklimfngiaa
