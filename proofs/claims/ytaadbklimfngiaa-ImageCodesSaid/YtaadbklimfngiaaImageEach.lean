/- A reader reads as many as there are (image.reader.each). Condition: the reader is a call's own. -/
import Derived.Test.YtaadbklimfngiaaImageOne
set_option linter.unusedVariables false
namespace Go.Proofs.Ytaadbklimfngiaa
open Go.RowKit Oct

theorem RdrAt.belowOf {w w' : World} {g : Nat} {A : Option Addr} {l : List UInt8} {c : Nat} {bd : Bool} {v1 : Value} {z1 : List Int} {v2 : Value} {z2 : List Int} {v3 : Value} {es : List PE} {v4 : Value} {ts : List TimD} {now : Int}
    (h : RdrAt w g A l c bd v1 z1 v2 z2 v3 es v4 ts now) (hb : Below w.heap.size w w') : RdrAt w' g A l c bd v1 z1 v2 z2 v3 es v4 ts now := h.off (grown_of_below hb none) (fun r hr => by cases hr)
/-- A write of the mark that something is wrong. -/
theorem RdrAt.mark {w : World} {g : Nat} {A : Option Addr} {l : List UInt8} {c : Nat} {bd : Bool} {v1 : Value} {z1 : List Int} {v2 : Value} {z2 : List Int} {v3 : Value} {es : List PE} {v4 : Value} {ts : List TimD} {now : Int}
    (h : RdrAt w g A l c bd v1 z1 v2 z2 v3 es v4 ts now) (x : Bool) : RdrAt (w.setCell ⟨g, 1, none⟩ (.bool x)) g A l c x v1 z1 v2 z2 v3 es v4 ts now :=
  h.grown ⟨Blk.set_ h.pl.blk 1 _, h.pl.rd.keep fun q hq => World.cell?_of_block (Below.heap_setCell w ⟨g, 1, none⟩ (.bool x) q.block (by show q.block ≠ g; omega)), h.pl.le, h.pl.cap, h.pl.len⟩ (grown_setCell w g 1 _)


theorem eachone_step {T : Option (List PastD × List UInt8)} {bd : Bool} {j' : Nat} {es : List PE} {l' l5 : List UInt8} {p : PastD} {wr5 : Bool} (h : (bd = false ∧ T = tkRow tkPast (j' + 1) l' (es.map (·.1))) ∧ es.length + (j' + 1) ≤ 4096) (hr : PastRel false l' p wr5 l5) (x : Value) :
    (wr5 = true → bd = true ∨ T = none) ∧ (wr5 = false → (bd = false ∧ T = tkRow tkPast j' l5 ((es ++ [(p, x)]).map (·.1))) ∧ (es ++ [(p, x)]).length + j' ≤ 4096) := by
  obtain ⟨⟨h1, h2⟩, h3⟩ := h
  refine ⟨fun h => ?_, fun h => ?_⟩
  · rcases hr.1 h with h4 | h4
    · cases h4
    · exact .inr (by rw [h2, tkRow, h4]; rfl)
  · obtain ⟨_, h4⟩ := hr.2 h
    refine ⟨⟨h1, ?_⟩, by simp; omega⟩
    rw [h2, tkRow, h4]
    simp
theorem eachone_start (bd : Bool) (l : List UInt8) : ((bd || decide ((takeU maxI l).2.2 ≠ 0) || decide (4096 < (takeU maxI l).1)) = true → bd = true ∨ ((tkN l).bind fun k => tkRow tkPast k.1 k.2 []) = none) ∧
    ((bd || decide ((takeU maxI l).2.2 ≠ 0) || decide (4096 < (takeU maxI l).1)) = false → (bd = false ∧ ((tkN l).bind fun k => tkRow tkPast k.1 k.2 []) = tkRow tkPast (takeU maxI l).1 (leftL bd (takeU maxI l).2.2 l (takeU maxI l).2.1) []) ∧ (takeU maxI l).1 ≤ 4096) := by
  unfold tkN leftL
  cases bd <;> by_cases h : (takeU maxI l).2.2 = 0 <;> by_cases h2 : 4096 < (takeU maxI l).1 <;> simp [h, h2, Nat.not_le.2, Nat.not_lt.1] <;> omega
set_option maxHeartbeats 2000000 in
set_option maxRecDepth 100000 in
theorem reachone_any (w : World) (g : Nat) (A : Option Addr) (l : List UInt8) (c : Nat) (bd : Bool) (v1 : Value) (z1 : List Int) (v2 : Value) (z2 : List Int) (v3 : Value) (es0 : List PE) (v4 : Value) (ts0 : List TimD) (now : Int) (hx0 : es0 = []) (hR : RdrAt w g A l c bd v1 z1 v2 z2 v3 es0 v4 ts0 now) :
    Calls Try.prog 100 #[.pointer (some ⟨g, 0, none⟩), .func (.func 101) #[.pointer (some ⟨g, 0, none⟩)] #[]] w fun e w' => ∃ (es : List PE) (v : Value) (A' : Option Addr) (l' : List UInt8) (c' : Nat) (bd' : Bool), e = .returned (.tuple #[]) ∧ RdrAt w' g A' l' c' bd' v1 z1 v2 z2 v es v4 ts0 now ∧ Below g w w' ∧ (bd' = true → bd = true ∨ ((tkN l).bind fun k => tkRow tkPast k.1 k.2 []) = none) ∧ (bd' = false → bd = false ∧ ((tkN l).bind fun k => tkRow tkPast k.1 k.2 []) = some ((es.map (·.1)), l')) := by
  subst hx0
  have HR := Lib.hid hR
  have hgl : g < w.heap.size := hR.pl.blk.lt
  obtain ⟨⟨k0, _, _, _, _, _, _⟩, _⟩ := blk7_at hR.pl.blk
  have htk := Lib.hid (takeUint_any A l c w (hR.pl.rd.more (Nat.le_of_lt hgl)) (by have := hR.pl.len; omega))
  have hu := takeU_used maxI l
  have hnn : (takeU maxI l).1 ≤ 9223372036854775807 := by have := cnt_le maxI l; unfold maxI at this; exact this
  have HS := Lib.hid (eachone_start bd l)
  clear hR
  go_enter Try.func100, Try.ntmps100
  go_wp2_with fail
  refine htk.out.mono ?_
  clear htk k0
  rintro e w1 ⟨rfl, hb1⟩
  have htook := Lib.hid (took_any g A l c bd v1 v2 v3 v4 (.int .i64 now) (takeU maxI l).2.1 (takeU maxI l).2.2 w1 (HR.out.pl.below hb1 hgl) hu)
  go_wp2_with fail
  refine htook.out.mono ?_
  clear htook
  rintro e w2 ⟨A1, c1, rfl, hP, hg⟩
  have hg2 : w.grownBy w2 (some g) := grown_then (grown_of_below hb1 (some g)) hg (.inl rfl)
  have hR2 := HR.out.grown hP hg2
  have HB2 := Lib.hid ((Below.refl g w).grown hg2 (Nat.le_of_lt hgl) (fun j hj => by injection hj with hj; omega))
  obtain ⟨⟨_, k1, _, _, _, _, _⟩, ⟨_, f1, _, _, _, _, _⟩⟩ := blk7_at hR2.pl.blk
  obtain ⟨wr1, hwr1⟩ : ∃ b, b = (bd || decide ((takeU maxI l).2.2 ≠ 0)) := ⟨_, rfl⟩
  obtain ⟨l1, hl1⟩ : ∃ b, b = leftL bd (takeU maxI l).2.2 l (takeU maxI l).2.1 := ⟨_, rfl⟩
  obtain ⟨nn, hn1⟩ : ∃ b, b = (takeU maxI l).1 := ⟨_, rfl⟩
  rw [← hwr1, ← hl1] at hR2
  rw [← hwr1] at k1
  rw [← hwr1, ← hl1, ← hn1] at HS
  rw [← hn1, ← hwr1]
  rw [← hn1] at hnn
  have HR2 := Lib.hid hR2
  clear hP hg hg2 hb1 HR hR2 hwr1 hl1 hn1 hu
  have hx : ∃ x : Bool, x = (wr1 || decide (4096 < nn)) ∧ (wr1 = true ∧ x = true ∨ wr1 = false ∧ 4096 < nn ∧ x = true ∨ wr1 = false ∧ ¬ 4096 < nn ∧ x = false) := ⟨_, rfl, by
    cases wr1
    · by_cases h : 4096 < nn <;> simp [h]
    · simp⟩
  obtain ⟨x, hx1, hx2⟩ := hx
  rw [← hx1] at HS
  clear hx1
  have HM := Lib.hid (HR2.out.mark x)
  have HBM := Lib.hid (HB2.out.setCell (p := ⟨g, 1, none⟩) (Nat.le_refl _) (.bool x))
  clear HR2 HB2
  rcases hx2 with ⟨rfl, rfl⟩ | ⟨rfl, h4, rfl⟩ | ⟨rfl, h4, rfl⟩
  all_goals
    try (have h4I : (4096 : Int) < nn := by omega)
    try (have h4I : decide ((4096 : Int) < nn) = false := by simpa using (by omega : (nn : Int) ≤ 4096))
    go_upto_region 3 with fail
    clear k1 f1
    try clear h4 h4I
    generalize w2.setCell ⟨g, 1, none⟩ (.bool _) = w3 at HM HBM ⊢
    go_loopw [4] (fun n wq => ∃ (j : Nat) (es : List PE) (v : Value) (A' : Option Addr) (l' : List UInt8) (c' : Nat) (bd' : Bool), n = .int .i64 j ∧ j ≤ nn ∧ Hid (RdrAt wq g A' l' c' bd' v1 z1 v2 z2 v es v4 ts0 now) ∧ Hid (Below g w wq) ∧ Hid ((bd' = true → bd = true ∨ ((tkN l).bind fun k => tkRow tkPast k.1 k.2 []) = none) ∧ (bd' = false → (bd = false ∧ ((tkN l).bind fun k => tkRow tkPast k.1 k.2 []) = tkRow tkPast j l' (es.map (·.1))) ∧ es.length + j ≤ 4096))) (fun n _ => (intOf n).toNat)
    case atStart => exact ⟨nn, [], v3, A1, l1, c1, _, rfl, Nat.le_refl _, HM, HBM, Lib.hid ⟨fun h => HS.out.1 (by first | exact h | trivial | (cases h)), fun h => ⟨(HS.out.2 (by first | exact h | trivial | (cases h))).1, by have := (HS.out.2 (by first | exact h | trivial | (cases h))).2; simpa using this⟩⟩⟩
    case round =>
      obtain ⟨j, es, v, A', l', c', bd', rfl, hj, hR, hB, hP⟩ := hrel
      clear HM HBM HS
      obtain ⟨⟨_, k1, _, _, _, _, _⟩, ⟨_, f1, _, _, _, _, _⟩⟩ := blk7_at hR.out.pl.blk
      rcases Nat.eq_zero_or_pos j with h0 | h0
      · subst h0
        have HF : Hid ((bd' = true → bd = true ∨ ((tkN l).bind fun k => tkRow tkPast k.1 k.2 []) = none) ∧ (bd' = false → bd = false ∧ ((tkN l).bind fun k => tkRow tkPast k.1 k.2 []) = some ((es.map (·.1)), l'))) := Lib.hid ⟨hP.out.1, fun h => (hP.out.2 h).1⟩
        clear hP
        go_wp2
        go_end0
        exact ⟨es, v, A', l', c', bd', rfl, hR.out, hB.out, HF.out.1, HF.out.2⟩
      · have h0I : (0 : Int) < j := by omega
        cases bd' with
        | true =>
          have HF := Lib.hid (hP.out.1 rfl)
          clear hP
          go_wp2
          go_end0
          exact ⟨es, v, A', l', c', true, rfl, hR.out, hB.out, fun _ => HF.out, fun h => by cases h⟩
        | false =>
          have hP2 := hP.out.2 rfl
          obtain ⟨j', rfl⟩ : ∃ j', j = j' + 1 := ⟨j - 1, by omega⟩
          have hone := Lib.hid (rone_any wr g A' l' c' false v1 z1 v2 z2 v es v4 ts0 now hR.out (by have := hP2.2; omega))
          have HP2 := Lib.hid hP2
          have hgr : g < wr.heap.size := hR.out.pl.blk.lt
          clear hP hP2 hR
          go_wp2_with fail
          refine hone.out.mono ?_
          clear hone k1 f1
          rintro e w4 ⟨p, x, v5, A5, l5, c5, wr5, rfl, hR5, hb5, hrel5⟩
          have HR5 := Lib.hid hR5
          have HB5 := Lib.hid (hB.out.trans hb5)
          have HP5 := Lib.hid (eachone_step (T := ((tkN l).bind fun k => tkRow tkPast k.1 k.2 [])) (bd := bd) HP2.out hrel5 x)
          clear hR5 hb5 hrel5 HP2 hB
          go_wp2
          go_roundw
          case rel => exact ⟨j', es ++ [(p, x)], v5, A5, l5, c5, wr5, by go_num, by omega, HR5, HB5, HP5⟩
          case measure => simp [intOf]


theorem eachtimer_step {T : Option (List TimD × List UInt8)} {bd : Bool} {j' : Nat} {es : List TimD} {l' l5 : List UInt8} {p : TimD} {wr5 : Bool} (h : (bd = false ∧ T = tkRow tkTim (j' + 1) l' es) ∧ es.length + (j' + 1) ≤ 4096) (hr : TimRel false l' p wr5 l5)  :
    (wr5 = true → bd = true ∨ T = none) ∧ (wr5 = false → (bd = false ∧ T = tkRow tkTim j' l5 (es ++ [p])) ∧ (es ++ [p]).length + j' ≤ 4096) := by
  obtain ⟨⟨h1, h2⟩, h3⟩ := h
  refine ⟨fun h => ?_, fun h => ?_⟩
  · rcases hr.1 h with h4 | h4
    · cases h4
    · exact .inr (by rw [h2, tkRow, h4]; rfl)
  · obtain ⟨_, h4⟩ := hr.2 h
    refine ⟨⟨h1, ?_⟩, by simp; omega⟩
    rw [h2, tkRow, h4]
    simp
theorem eachtimer_start (bd : Bool) (l : List UInt8) : ((bd || decide ((takeU maxI l).2.2 ≠ 0) || decide (4096 < (takeU maxI l).1)) = true → bd = true ∨ ((tkN l).bind fun k => tkRow tkTim k.1 k.2 []) = none) ∧
    ((bd || decide ((takeU maxI l).2.2 ≠ 0) || decide (4096 < (takeU maxI l).1)) = false → (bd = false ∧ ((tkN l).bind fun k => tkRow tkTim k.1 k.2 []) = tkRow tkTim (takeU maxI l).1 (leftL bd (takeU maxI l).2.2 l (takeU maxI l).2.1) []) ∧ (takeU maxI l).1 ≤ 4096) := by
  unfold tkN leftL
  cases bd <;> by_cases h : (takeU maxI l).2.2 = 0 <;> by_cases h2 : 4096 < (takeU maxI l).1 <;> simp [h, h2, Nat.not_le.2, Nat.not_lt.1] <;> omega
set_option maxHeartbeats 2000000 in
set_option maxRecDepth 100000 in
theorem reachtimer_any (w : World) (g : Nat) (A : Option Addr) (l : List UInt8) (c : Nat) (bd : Bool) (v1 : Value) (z1 : List Int) (v2 : Value) (z2 : List Int) (v3 : Value) (es0 : List PE) (v4 : Value) (ts0 : List TimD) (now : Int) (hx0 : ts0 = []) (hR : RdrAt w g A l c bd v1 z1 v2 z2 v3 es0 v4 ts0 now) :
    Calls Try.prog 100 #[.pointer (some ⟨g, 0, none⟩), .func (.func 102) #[.pointer (some ⟨g, 0, none⟩)] #[]] w fun e w' => ∃ (es : List TimD) (v : Value) (A' : Option Addr) (l' : List UInt8) (c' : Nat) (bd' : Bool), e = .returned (.tuple #[]) ∧ RdrAt w' g A' l' c' bd' v1 z1 v2 z2 v3 es0 v es now ∧ Below g w w' ∧ (bd' = true → bd = true ∨ ((tkN l).bind fun k => tkRow tkTim k.1 k.2 []) = none) ∧ (bd' = false → bd = false ∧ ((tkN l).bind fun k => tkRow tkTim k.1 k.2 []) = some (es, l')) := by
  subst hx0
  have HR := Lib.hid hR
  have hgl : g < w.heap.size := hR.pl.blk.lt
  obtain ⟨⟨k0, _, _, _, _, _, _⟩, _⟩ := blk7_at hR.pl.blk
  have htk := Lib.hid (takeUint_any A l c w (hR.pl.rd.more (Nat.le_of_lt hgl)) (by have := hR.pl.len; omega))
  have hu := takeU_used maxI l
  have hnn : (takeU maxI l).1 ≤ 9223372036854775807 := by have := cnt_le maxI l; unfold maxI at this; exact this
  have HS := Lib.hid (eachtimer_start bd l)
  clear hR
  go_enter Try.func100, Try.ntmps100
  go_wp2_with fail
  refine htk.out.mono ?_
  clear htk k0
  rintro e w1 ⟨rfl, hb1⟩
  have htook := Lib.hid (took_any g A l c bd v1 v2 v3 v4 (.int .i64 now) (takeU maxI l).2.1 (takeU maxI l).2.2 w1 (HR.out.pl.below hb1 hgl) hu)
  go_wp2_with fail
  refine htook.out.mono ?_
  clear htook
  rintro e w2 ⟨A1, c1, rfl, hP, hg⟩
  have hg2 : w.grownBy w2 (some g) := grown_then (grown_of_below hb1 (some g)) hg (.inl rfl)
  have hR2 := HR.out.grown hP hg2
  have HB2 := Lib.hid ((Below.refl g w).grown hg2 (Nat.le_of_lt hgl) (fun j hj => by injection hj with hj; omega))
  obtain ⟨⟨_, k1, _, _, _, _, _⟩, ⟨_, f1, _, _, _, _, _⟩⟩ := blk7_at hR2.pl.blk
  obtain ⟨wr1, hwr1⟩ : ∃ b, b = (bd || decide ((takeU maxI l).2.2 ≠ 0)) := ⟨_, rfl⟩
  obtain ⟨l1, hl1⟩ : ∃ b, b = leftL bd (takeU maxI l).2.2 l (takeU maxI l).2.1 := ⟨_, rfl⟩
  obtain ⟨nn, hn1⟩ : ∃ b, b = (takeU maxI l).1 := ⟨_, rfl⟩
  rw [← hwr1, ← hl1] at hR2
  rw [← hwr1] at k1
  rw [← hwr1, ← hl1, ← hn1] at HS
  rw [← hn1, ← hwr1]
  rw [← hn1] at hnn
  have HR2 := Lib.hid hR2
  clear hP hg hg2 hb1 HR hR2 hwr1 hl1 hn1 hu
  have hx : ∃ x : Bool, x = (wr1 || decide (4096 < nn)) ∧ (wr1 = true ∧ x = true ∨ wr1 = false ∧ 4096 < nn ∧ x = true ∨ wr1 = false ∧ ¬ 4096 < nn ∧ x = false) := ⟨_, rfl, by
    cases wr1
    · by_cases h : 4096 < nn <;> simp [h]
    · simp⟩
  obtain ⟨x, hx1, hx2⟩ := hx
  rw [← hx1] at HS
  clear hx1
  have HM := Lib.hid (HR2.out.mark x)
  have HBM := Lib.hid (HB2.out.setCell (p := ⟨g, 1, none⟩) (Nat.le_refl _) (.bool x))
  clear HR2 HB2
  rcases hx2 with ⟨rfl, rfl⟩ | ⟨rfl, h4, rfl⟩ | ⟨rfl, h4, rfl⟩
  all_goals
    try (have h4I : (4096 : Int) < nn := by omega)
    try (have h4I : decide ((4096 : Int) < nn) = false := by simpa using (by omega : (nn : Int) ≤ 4096))
    go_upto_region 3 with fail
    clear k1 f1
    try clear h4 h4I
    generalize w2.setCell ⟨g, 1, none⟩ (.bool _) = w3 at HM HBM ⊢
    go_loopw [4] (fun n wq => ∃ (j : Nat) (es : List TimD) (v : Value) (A' : Option Addr) (l' : List UInt8) (c' : Nat) (bd' : Bool), n = .int .i64 j ∧ j ≤ nn ∧ Hid (RdrAt wq g A' l' c' bd' v1 z1 v2 z2 v3 es0 v es now) ∧ Hid (Below g w wq) ∧ Hid ((bd' = true → bd = true ∨ ((tkN l).bind fun k => tkRow tkTim k.1 k.2 []) = none) ∧ (bd' = false → (bd = false ∧ ((tkN l).bind fun k => tkRow tkTim k.1 k.2 []) = tkRow tkTim j l' es) ∧ es.length + j ≤ 4096))) (fun n _ => (intOf n).toNat)
    case atStart => exact ⟨nn, [], v4, A1, l1, c1, _, rfl, Nat.le_refl _, HM, HBM, Lib.hid ⟨fun h => HS.out.1 (by first | exact h | trivial | (cases h)), fun h => ⟨(HS.out.2 (by first | exact h | trivial | (cases h))).1, by have := (HS.out.2 (by first | exact h | trivial | (cases h))).2; simpa using this⟩⟩⟩
    case round =>
      obtain ⟨j, es, v, A', l', c', bd', rfl, hj, hR, hB, hP⟩ := hrel
      clear HM HBM HS
      obtain ⟨⟨_, k1, _, _, _, _, _⟩, ⟨_, f1, _, _, _, _, _⟩⟩ := blk7_at hR.out.pl.blk
      rcases Nat.eq_zero_or_pos j with h0 | h0
      · subst h0
        have HF : Hid ((bd' = true → bd = true ∨ ((tkN l).bind fun k => tkRow tkTim k.1 k.2 []) = none) ∧ (bd' = false → bd = false ∧ ((tkN l).bind fun k => tkRow tkTim k.1 k.2 []) = some (es, l'))) := Lib.hid ⟨hP.out.1, fun h => (hP.out.2 h).1⟩
        clear hP
        go_wp2
        go_end0
        exact ⟨es, v, A', l', c', bd', rfl, hR.out, hB.out, HF.out.1, HF.out.2⟩
      · have h0I : (0 : Int) < j := by omega
        cases bd' with
        | true =>
          have HF := Lib.hid (hP.out.1 rfl)
          clear hP
          go_wp2
          go_end0
          exact ⟨es, v, A', l', c', true, rfl, hR.out, hB.out, fun _ => HF.out, fun h => by cases h⟩
        | false =>
          have hP2 := hP.out.2 rfl
          obtain ⟨j', rfl⟩ : ∃ j', j = j' + 1 := ⟨j - 1, by omega⟩
          have hone := Lib.hid (rtimer_any wr g A' l' c' false v1 z1 v2 z2 v3 es0 v es now hR.out (by have := hP2.2; omega))
          have HP2 := Lib.hid hP2
          have hgr : g < wr.heap.size := hR.out.pl.blk.lt
          clear hP hP2 hR
          go_wp2_with fail
          refine hone.out.mono ?_
          clear hone k1 f1
          rintro e w4 ⟨p, v5, A5, l5, c5, wr5, rfl, hR5, hb5, hrel5⟩
          have HR5 := Lib.hid hR5
          have HB5 := Lib.hid (hB.out.trans hb5)
          have HP5 := Lib.hid (eachtimer_step (T := ((tkN l).bind fun k => tkRow tkTim k.1 k.2 [])) (bd := bd) HP2.out hrel5 )
          clear hR5 hb5 hrel5 HP2 hB
          go_wp2
          go_roundw
          case rel => exact ⟨j', es ++ [p], v5, A5, l5, c5, wr5, by go_num, by omega, HR5, HB5, HP5⟩
          case measure => simp [intOf]

end Go.Proofs.Ytaadbklimfngiaa
