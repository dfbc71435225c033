/- A page of an instance's bytes (image.page). Condition: the page is a call's own, what is put can be read. -/
import Derived.Test.YtaadbklimfngiaaStruct
import Derived.Test.YtaadbklimfngiaaKeepSame
set_option linter.unusedVariables false
namespace Go.Proofs.Ytaadbklimfngiaa
open Go.RowKit Oct

/-- A page in memory. -/
def PgAt (w : World) (g : Nat) (p : Pg) (v : Value) : Prop := Blk w g 131 #[v, .bool p.long] ∧ Bs w (g + 1) v p.b
def ptrV (g : Nat) : Value := .slice (some ⟨g, 0, none⟩) 0 0
def Next (v v' : Value) (n : Nat) : Prop := ∀ q, v'.ownBlock = some q → v.ownBlock = some q ∨ n ≤ q
theorem But.refl (x y : Value) (w : World) : But x y w w := ⟨rfl, rfl, rfl, Nat.le_refl _, fun _ _ _ _ => rfl⟩
theorem But.then_ {x y : Value} {w w1 w2 : World} (h : But x y w w1) (hb : Below w1.heap.size w1 w2) : But x y w w2 :=
  ⟨hb.os.trans h.os, hb.tape.trans h.tape, hb.output.trans h.output, Nat.le_trans h.size hb.size, fun k hk h1 h2 => (hb.block k (by have := h.size; omega)).trans (h.block k hk h1 h2)⟩
theorem But.grown {x y : Value} {w w1 w2 : World} (h : But x y w w1) {row : Option Nat} (hg : w1.grownBy w2 row) (hr : ∀ q, row = some q → x.ownBlock = some q ∨ y.ownBlock = some q ∨ w.heap.size ≤ q) : But x y w w2 :=
  ⟨hg.os.trans h.os, hg.tape.trans h.tape, hg.output.trans h.output, Nat.le_trans h.size hg.size, fun k hk h1 h2 => (hg.block k (by have := h.size; omega) (fun e => by
    rcases hr k e.symm with h3 | h3 | h3
    · exact h1 h3
    · exact h2 h3
    · omega)).trans (h.block k hk h1 h2)⟩
theorem But.belowG {g B : Nat} {v : Value} {w w' : World} (h : But (ptrV g) v w w') (hv : ∀ q, v.ownBlock = some q → g < q) (hB : B ≤ g) (hs : B ≤ w.heap.size) : Below B w w' := by
  refine ⟨h.os, h.tape, h.output, h.size, fun k hk => h.block k (by omega) (fun e => ?_) (fun e => ?_)⟩
  · have h2 : g = k := by simpa [ptrV, Value.ownBlock] using e
    omega
  · have := hv k e
    omega
theorem Rd.but {w w' : World} {B : Nat} {A : Option Addr} {xs : List Value} (h : Rd w B A xs) {x y : Value} (hb : But x y w w') (hB : B ≤ w.heap.size) (hne : ∀ ad, A = some ad → 0 < xs.length → x.ownBlock ≠ some ad.block ∧ y.ownBlock ≠ some ad.block) : Rd w' B A xs := fun hn => by
  obtain ⟨ad, h1, h2, h3⟩ := h hn
  exact ⟨ad, h1, h2, fun j u hj => (World.cell?_of_block (w := w) (by rw [block_of_add]; exact hb.block _ (by omega) (hne ad h1 hn).1 (hne ad h1 hn).2)).trans (h3 j u hj)⟩
theorem Blk.but {w w' : World} {g : Nat} {t : TypeId} {cs : Array Value} (h : Blk w g t cs) {x y : Value} (hb : But x y w w') (h1 : x.ownBlock ≠ some g) (h2 : y.ownBlock ≠ some g) : Blk w' g t cs := (hb.block g h.lt h1 h2).trans h
theorem blk2_at {w : World} {g : Nat} {t : TypeId} {a b : Value} (h : Blk w g t #[a, b]) : w.cell? ⟨g, 0, none⟩ = some a ∧ w.cell? ⟨g, 1, none⟩ = some b ∧ w.frozen? ⟨g, 0, none⟩ = false ∧ w.frozen? ⟨g, 1, none⟩ = false :=
  ⟨h.cell 0, h.cell 1, h.frozen 0, h.frozen 1⟩
/-- A page behind a put. -/
def PutPg (w : World) (g : Nat) (v : Value) (p' : Pg) (e : Ending) (w' : World) : Prop := ∃ v', e = .returned (.tuple #[]) ∧ PgAt w' g p' v' ∧ But (ptrV g) v w w' ∧ Next v v' w.heap.size
set_option maxHeartbeats 1000000 in
set_option maxRecDepth 100000 in
theorem pput_any (g : Nat) (p : Pg) (v : Value) (A : Option Addr) (l : List UInt8) (n c : Nat) (e : Int) (hn : n = l.length) (w : World) (hI : PgAt w g p v) (hr : Rd w w.heap.size A (cells l)) (hl : l.length ≤ 1000000) :
    Calls Try.prog 114 #[.pointer (some ⟨g, 0, none⟩), .slice A n c, .int .i64 e] w (PutPg w g v (p.put l e)) := by
  subst hn
  obtain ⟨A0, c0, rfl, hv1, hv2, -⟩ := bs_shape hI.2
  obtain ⟨b, long⟩ := p
  have hgl : g < w.heap.size := hI.1.lt
  have hK : Blk w g 131 #[.slice A0 b.length c0, .bool long] := hI.1
  have hV : Bs w (g + 1) (.slice A0 b.length c0) b := hI.2
  dsimp only at hv1
  have HL : ∀ x : Bool, Hid (PgAt (w.setCell ⟨g, 1, none⟩ (.bool x)) g ⟨b, x⟩ (.slice A0 b.length c0) ∧ But (ptrV g) (.slice A0 b.length c0) w (w.setCell ⟨g, 1, none⟩ (.bool x))) := fun x =>
    Lib.hid ⟨⟨Blk.set_ hK 1 _, Own.far hV (grown_setCell w g 1 _) (by omega)⟩, (But.refl _ _ _).set (g := g) rfl 1 _⟩
  obtain ⟨k0, k1, f0, f1⟩ := blk2_at hK
  have HR := Lib.hid hr
  have HV := Lib.hid hV
  have HT0 := Lib.hid hV
  have HK := Lib.hid hK
  have HB := Lib.hid hl
  clear hI hr hK hV hl
  by_cases h1 : long = true
  · subst h1
    have HE : Hid (Pg.put ⟨b, true⟩ l e = ⟨b, true⟩) := Lib.hid (Pg.put_long rfl l e)
    have HT := HL true
    clear HL
    go_enter Try.func114, Try.ntmps114
    go_wp2
    go_end0
    exact ⟨_, rfl, by rw [HE.out]; exact HT.out.1, HT.out.2, fun q hq => .inl hq⟩
  · have h1' : long = false := by simpa using h1
    subst h1'
    by_cases h2 : e = 0
    · subst h2
      by_cases h3 : 1048576 < b.length
      · have h3I : (1048576 : Int) < b.length := by omega
        have HE : Hid (Pg.put ⟨b, false⟩ l 0 = ⟨b, true⟩) := Lib.hid (by unfold Pg.put; rw [if_pos (by simp [h3])])
        have HT := HL true
        clear HL h1 h3
        go_enter Try.func114, Try.ntmps114
        go_wp2
        go_end0
        exact ⟨_, rfl, by rw [HE.out]; exact HT.out.1, HT.out.2, fun q hq => .inl hq⟩
      · have h3I : ¬ (1048576 : Int) < b.length := by omega
        have HE : Hid (Pg.put ⟨b, false⟩ l 0 = ⟨b ++ l, false⟩) := Lib.hid (by unfold Pg.put; rw [if_neg (by simp [h3])])
        have HT := HL false
        have hbl : b.length + l.length ≤ 3000000 := by have := HB.out; omega
        clear HL h1 h3
        go_enter Try.func114, Try.ntmps114
        go_upto_region 2 with fail
        have HRL : Hid (Rd (w.setCell ⟨g, 1, none⟩ (.bool false)) w.heap.size A (cells l)) := Lib.hid fun hn => by
          obtain ⟨ad, had, hb, hc⟩ := HR.out hn
          refine ⟨ad, had, hb, fun j u hj => ?_⟩
          have hu := hc j u hj
          by_cases he : ad.block = g
          · have h9 : w.cell? ⟨g, 1, none⟩ = some (.bool false) := k1
            have hne : ad.add j ≠ ⟨g, 1, none⟩ := fun e => by
              rw [e, h9] at hu
              injection hu with hu
              subst hu
              have := List.mem_of_getElem? hj
              simp [cells] at this
            rw [World.cell?_setCell_other (h := Ne.symm hne)]
            exact hu
          · exact (World.cell?_of_block (w := w) (by rw [block_of_add]; exact Below.heap_setCell w _ _ _ he)).trans hu
        generalize w.setCell ⟨g, 1, none⟩ (.bool false) = w1 at HT HRL ⊢
        have hs1 : w.heap.size ≤ w1.heap.size := HT.out.2.size
        obtain ⟨k0, k1, f0, f1⟩ := blk2_at HT.out.1.1
        have HV1 : Hid (Bs w1 (g + 1) (.slice A0 b.length c0) b) := Lib.hid HT.out.1.2
        have hgb : ∀ q, (Value.slice A0 b.length c0).ownBlock = some q → g < q ∧ q < w.heap.size := fun q hq => by have := Own.lt HT0.out q hq; omega
        have HGB := Lib.hid hgb
        clear HV HK HR hgb
        go_wp2_with (at_builtin; refine wpList_append_any rfl (.tmp 34) (.tmp 35) 22 rfl (g + 1) 5 (.int .u8 0) 1 Try.underlying22 info_u8 rfl _ (cells b) rfl HV1.out w.heap.size A l.length c _ rfl (cells_length _).symm HRL.out (bytes_oneCell _) (by rw [cells_length]; unfold maxLen; omega) (by rw [cells_length]; omega) (by omega) ?_; intro v4 w4 hov4 hg4 hf4; rw [← cells_append] at hov4; obtain ⟨A4, c4, rfl, -, -, -⟩ := bs_shape hov4; have hK4 : Blk w4 g 131 _ := HT.out.1.1.grown hg4 (fun e => by have := HGB.out g e.symm; omega); obtain ⟨m0, m1, m2, m3⟩ := blk2_at hK4)
        have HOV4 : Hid (Bs w4 (g + 1) (.slice A4 (b ++ l).length c4) (b ++ l)) := Lib.hid hov4
        have hB4 := HT.out.2.grown hg4 (fun q hq => .inr (.inl hq))
        have HPG : Hid (PgAt (w4.setCell ⟨g, 0, none⟩ (.slice A4 (b ++ l).length c4)) g ⟨b ++ l, false⟩ (.slice A4 (b ++ l).length c4) ∧ But (ptrV g) (.slice A0 b.length c0) w (w4.setCell ⟨g, 0, none⟩ (.slice A4 (b ++ l).length c4))) :=
          Lib.hid ⟨⟨Blk.set_ hK4 0 _, Own.far HOV4.out (grown_setCell w4 g 0 _) (by omega)⟩, hB4.set (g := g) rfl 0 _⟩
        have HNX : Hid (Next (.slice A0 b.length c0) (.slice A4 (b ++ l).length c4) w.heap.size) := Lib.hid fun q hq => by
          rcases hf4 with h | ⟨g', h, hg'⟩
          · exact .inl (h.symm.trans hq)
          · rw [h] at hq
            injection hq with hq
            subst hq
            exact .inr (by omega)
        clear hov4 hg4 hf4 hK4 hB4 HGB HOV4 HT HV1 HRL
        rw [List.length_append] at HPG HNX
        go_wp2
        go_end0
        exact ⟨_, rfl, by rw [HE.out]; exact HPG.out.1, HPG.out.2, HNX.out⟩
    · have h2b : (e != 0) = true := by simpa using h2
      have HE : Hid (Pg.put ⟨b, false⟩ l e = ⟨b, true⟩) := Lib.hid (by unfold Pg.put; rw [if_pos (by simp [h2])])
      have HT := HL true
      clear HL h1 h2
      go_enter Try.func114, Try.ntmps114
      go_wp2
      go_end0
      exact ⟨_, rfl, by rw [HE.out]; exact HT.out.1, HT.out.2, fun q hq => .inl hq⟩
end Go.Proofs.Ytaadbklimfngiaa
