/- seal.Close. Condition: the bytes can be read, at most 2^46. -/
import Derived.Test.YtelplpajpfkfiaaJoin
set_option linter.unusedVariables false
namespace Go.Proofs.Ytelplpajpfkfiaa
open Go.RowKit Oct

theorem closeS_piece {p : List UInt8} (h : ¬ 1048576 < p.length) : closeS p = piece p := if_neg h

/-- Rows that were just laid side by side. -/
theorem rows_lit (W : World) (t : TypeId) (ps : List Row) (h : RRd W W.heap.size ps) : Rd (W.alloc (.cells (ps.map Row.val).toArray t)) (W.alloc (.cells (ps.map Row.val).toArray t)).heap.size (some ⟨W.heap.size, 0, none⟩) (ps.map Row.val) ∧ RRd (W.alloc (.cells (ps.map Row.val).toArray t)) (W.alloc (.cells (ps.map Row.val).toArray t)).heap.size ps := by
  refine ⟨(rd_lit W t _).more (by simp), fun p hp => ⟨?_, (h p hp).2⟩⟩
  have hb : Below W.heap.size W (W.alloc (.cells (ps.map Row.val).toArray t)) := (Below.refl _ _).alloc (Nat.le_refl _) _
  exact ((h p hp).1.below hb).more hb.size
theorem RRd.below {w w' : World} {B : Nat} {ps : List Row} (h : RRd w B ps) (hb : Below B w w') (hB : B ≤ w'.heap.size) : RRd w' w'.heap.size ps := fun p hp => ⟨((h p hp).1.below hb).more hB, (h p hp).2⟩
theorem RRd.cons {w : World} {B : Nat} {A : Option Addr} {l : List UInt8} {c : Nat} {ps : List Row} (h : Rd w B A (cells l)) (hl : l.length ≤ 4611686018427387904) (k : RRd w B ps) : RRd w B (Row.mk A l c :: ps) := by
  intro p hp
  rcases List.mem_cons.1 hp with rfl | hp
  · exact ⟨h, hl⟩
  · exact k p hp
theorem RRd.snoc {w : World} {B : Nat} {A : Option Addr} {l : List UInt8} {c : Nat} {ps : List Row} (k : RRd w B ps) (h : Rd w B A (cells l)) (hl : l.length ≤ 4611686018427387904) : RRd w B (ps ++ [Row.mk A l c]) := by
  intro p hp
  rcases List.mem_append.1 hp with hp | hp
  · exact k p hp
  · obtain rfl := List.mem_singleton.1 hp
    exact ⟨h, hl⟩
theorem RRd.nil {w : World} {B : Nat} : RRd w B [] := fun p hp => by cases hp

set_option maxHeartbeats 2000000 in
set_option maxRecDepth 100000 in
theorem close_any (A : Option Addr) (p : List UInt8) (n c : Nat) (hn : n = p.length) (w : World) (hr : Rd w w.heap.size A (cells p)) (hl : p.length ≤ 140737488351232) :
    Calls Try.prog 42 #[.slice A n c] w fun e w' => ∃ v, e = .returned (.tuple #[v, .int .i64 (closeE p)]) ∧ Got w' w.heap.size v (closeS p) ∧ Below w.heap.size w w' := by
  subst hn
  by_cases h0 : 1048576 < p.length
  · have h1 : closeE p = 2 := if_pos h0
    have h2 : closeS p = [] := if_pos h0
    rw [h1, h2]
    clear h1 h2
    go_enter Try.func42, Try.ntmps42
    go_wp2
    go_ret2
    exact ⟨_, rfl, .of_own (Own.nil _ _ _), Below.refl _ _⟩
  · have h1 : closeE p = 0 := if_neg h0
    have hel := enc_len p.length (by omega)
    have HC : Hid (closeS p = flat [Row.mk none (enc p.length) 0, Row.mk none p 0, Row.mk none (Crc.four (Crc.sum (enc p.length ++ p))) 0]) := Lib.hid (by rw [closeS_piece h0]; simp [flat, piece, head])
    rw [h1]
    clear h1
    go_enter Try.func42, Try.ntmps42
    go_wp2_with fail
    refine (uint_pos p.length w (by omega)).mono ?_
    rintro e w1 ⟨v1, rfl, hov1, hb1⟩
    obtain ⟨A1, c1, rfl, hc1, hm1, hr1⟩ := bs_shape hov1
    have hs := Crc.sum_lt (enc p.length ++ p)
    have hf4 : (Crc.four (Crc.sum (enc p.length ++ p))).length = 4 := Crc.four_length _
    have hflat : ∀ a b c, flat [Row.mk A1 (enc p.length) a, Row.mk A p b, c] = flat [Row.mk none (enc p.length) 0, Row.mk none p 0, Row.mk none c.l 0] := fun a b c => by simp [flat]
    have hsum : flat [Row.mk A1 (enc p.length) c1, Row.mk A p c] = enc p.length ++ p := by simp [flat]
    have hr0 := (hr.below hb1).more hb1.size
    have hp2 : RRd w1 w1.heap.size [Row.mk A1 (enc p.length) c1, Row.mk A p c] := .cons hr1 (by omega) (.cons hr0 (by omega) .nil)
    obtain ⟨k1, k2⟩ := rows_lit w1 22 _ hp2
    have HS := Lib.hid hs
    have H4 := Lib.hid hf4
    have HFL := Lib.hid hflat
    have HSUM := Lib.hid hsum
    have K1 := Lib.hid k1
    have K2 := Lib.hid k2
    have HP2 := Lib.hid hp2
    have hbX := (Below.refl w1.heap.size w1).alloc (Nat.le_refl _) (.cells ([Row.mk A1 (enc p.length) c1, Row.mk A p c].map Row.val).toArray 22)
    have hbA := hb1.alloc hb1.size (.cells ([Row.mk A1 (enc p.length) c1, Row.mk A p c].map Row.val).toArray 22)
    clear hs hf4 hflat hsum k1 k2 hp2 hr hr0 hr1 hov1
    go_wp2_with fail
    refine (sum_any _ [Row.mk A1 (enc p.length) c1, Row.mk A p c] 2 2 rfl _ K1.out K2.out (by simp)).mono ?_
    rintro e w2 ⟨rfl, hb2⟩
    rw [HSUM.out]
    have hb12 := hbA.trans (hb2.mono hbA.size)
    have hbX2 := hbX.trans (hb2.mono hbX.size)
    clear hb2 hbA K1 K2 hbX
    go_wp2_with fail
    refine (four_any (Crc.sum (enc p.length ++ p)) _ rfl HS.out w2).mono ?_
    rintro e w3 ⟨v3, rfl, hov3, hb3⟩
    obtain ⟨A3, c3, rfl, hc3, hm3, hr3⟩ := bs_shape hov3
    have hb13 := hb12.trans (hb3.mono hb12.size)
    have hbX3 := hbX2.trans (hb3.mono hbX2.size)
    have hp3 := HP2.out.below hbX3 hbX3.size
    generalize Crc.four (Crc.sum (enc p.length ++ p)) = F at hr3 H4 HC ⊢
    have hF : F.length ≤ 4 := by rw [H4.out]; omega
    have hp3' : RRd w3 w3.heap.size [Row.mk A1 (enc p.length) c1, Row.mk A p c, Row.mk A3 F c3] := hp3.snoc hr3 (by omega)
    obtain ⟨k1, k2⟩ := rows_lit w3 22 _ hp3'
    have K1 := Lib.hid k1
    have K2 := Lib.hid k2
    have HL3 : Hid ((flat [Row.mk A1 (enc p.length) c1, Row.mk A p c, Row.mk A3 F c3]).length ≤ 140737488351232) := Lib.hid (by simp [flat]; omega)
    have hbA := hb13.alloc hb13.size (.cells ([Row.mk A1 (enc p.length) c1, Row.mk A p c, Row.mk A3 F c3].map Row.val).toArray 22)
    clear hp3 hp3' k1 k2 hr3 hov3 hb3 hb12 hb13 hbX2 hbX3 HP2 hF
    go_wp2_with fail
    refine (join_any _ [Row.mk A1 (enc p.length) c1, Row.mk A p c, Row.mk A3 F c3] 3 3 rfl _ K1.out K2.out (by simp) HL3.out (by simp)).mono ?_
    rintro e w4 ⟨v4, rfl, hgot, hb4⟩
    rw [HFL.out, ← HC.out] at hgot
    have hb14 := hbA.trans (hb4.mono hbA.size)
    have hgot' := hgot.mono hbA.size
    clear hgot hb4 hbA K1 K2
    go_wp2
    go_ret2
    exact ⟨_, rfl, hgot', hb14⟩
end Go.Proofs.Ytelplpajpfkfiaa
