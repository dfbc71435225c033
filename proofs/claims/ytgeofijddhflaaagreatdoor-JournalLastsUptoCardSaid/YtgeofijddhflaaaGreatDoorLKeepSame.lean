/- Two snapshots that are one (pavaneref23.Same). Condition: their slices can be read and hold the same. -/
import Derived.Test.YtgeofijddhflaaaGreatDoorLOpenP
import Derived.Lib.MakeNoZero
import Derived.Handy
set_option linter.unusedVariables false
set_option linter.unusedSimpArgs false
set_option maxHeartbeats 8000000
set_option maxRecDepth 100000
namespace Go.Proofs.YtgeofijddhflaaaGreatDoor
section
open Oct
def head (p : List UInt8) : List UInt8 := enc p.length ++ p
def aE1 (p : List UInt8) : List UInt8 := head p ++ Crc.four (Crc.sum (head p))
def aF2 (p : List UInt8) : List UInt8 := if 1048576 < p.length then [] else aE1 p
def cR5 (p : List UInt8) : Int := if 1048576 < p.length then 2 else 0
def bP6 (b : List UInt8) : Nat := (aB9 maxI b).2.1 + (aB9 maxI b).1
def aD7 (b : List UInt8) : List UInt8 × Nat × Int :=
 if (aB9 maxI b).2.2 ≠ 0 then ([], 0, (aB9 maxI b).2.2)
 else if 1048576 < (aB9 maxI b).1 then ([], 0, 2)
 else if b.length < bP6 b + 4 then ([], 0, 3)
 else if Crc.four (Crc.sum (b.take (bP6 b))) = (b.drop (bP6 b)).take 4 then ((b.drop (aB9 maxI b).2.1).take (aB9 maxI b).1, bP6 b + 4, 0)
 else ([], 0, 5)
def bD3 (b : List UInt8) : Nat -> Nat -> List (List UInt8) × Nat × Int
 | 0, a => ([], a, 0)
 | f + 1, a =>
  if b.length <= a then ([], a, 0)
  else if (aD7 (b.drop a)).2.2 = 0 then
   ((aD7 (b.drop a)).1 :: (bD3 b f (a + (aD7 (b.drop a)).2.1)).1, (bD3 b f (a + (aD7 (b.drop a)).2.1)).2)
  else ([], a, (aD7 (b.drop a)).2.2)
def aH6 (b : List UInt8) : List (List UInt8) × Nat × Int := bD3 b (b.length + 1) 0
theorem bF4 (p : List UInt8) : (aE1 p).length = (enc p.length).length + p.length + 4 := by
 simp [aE1, head, Crc.four_length]
 omega
theorem dD9 (p : List UInt8) : p.length + 5 <= (aE1 p).length := by
 rw [bF4];have := dI9 p.length;omega
theorem aX1 (p b : List UInt8) (h : p.length <= 1048576) : aD7 (aE1 p ++ b) = (p, (aE1 p).length, 0) := by
 have ht : aB9 maxI (aE1 p ++ b) = (p.length, (enc p.length).length, 0) := by
  unfold aE1 head;rw [List.append_assoc, List.append_assoc];exact bN3 (by unfold maxI; omega) _
 have he : bP6 (aE1 p ++ b) = (head p).length := by
  unfold bP6;rw [ht];simp [head]
 have hp := bF4 p;have hh : (head p).length = (enc p.length).length + p.length := by simp [head]
 unfold aD7;rw [he, ht];rw [if_neg (by simp), if_neg (by simp; omega), if_neg (by rw [lT]; omega)];have h1 : (aE1 p ++ b).take (head p).length = head p := by
  unfold aE1;rw [List.append_assoc, List.take_left]
 have h2 : ((aE1 p ++ b).drop (head p).length).take 4 = Crc.four (Crc.sum (head p)) := by
  unfold aE1;rw [List.append_assoc, List.drop_left, <- Crc.four_length (Crc.sum (head p)), List.take_left]
 have h3 : ((aE1 p ++ b).drop (enc p.length).length).take p.length = p := by
  unfold aE1 head;rw [List.append_assoc, List.append_assoc, List.drop_left, List.take_left]
 rw [h1, h2, if_pos rfl];simp only;rw [h3]
 congr 2
 omega
theorem aW3 {b : List UInt8} (h : (aD7 b).2.2 = 0) : (aD7 b).1.length <= 1048576 ∧ 5 <= (aD7 b).2.1 ∧ (aD7 b).2.1 <= b.length ∧ b.take (aD7 b).2.1 = aE1 (aD7 b).1 := by
 unfold aD7 at h ⊢;by_cases h1 : (aB9 maxI b).2.2 ≠ 0
 ·rw [if_pos h1] at h
  exact absurd h h1
 rw [if_neg h1] at h ⊢;by_cases h2 : 1048576 < (aB9 maxI b).1
 ·rw [if_pos h2] at h
  cases h
 rw [if_neg h2] at h ⊢;by_cases h3 : b.length < bP6 b + 4
 ·rw [if_pos h3] at h
  cases h
 rw [if_neg h3] at h ⊢;by_cases h4 : Crc.four (Crc.sum (b.take (bP6 b))) = (b.drop (bP6 b)).take 4
 rotate_left
 ·rw [if_neg h4] at h
  cases h
 rw [if_pos h4];have a8 : (aB9 maxI b).2.2 = 0 := Classical.not_not.1 h1;have hf := cI1 (m := maxI) (l := b) a8;rw [<- dF6 a8] at hf;obtain ⟨f1, f2, f3⟩ := hf;have a9 : b.take (aB9 maxI b).2.1 = enc (aB9 maxI b).1 := f3;have a7 : ((b.drop (aB9 maxI b).2.1).take (aB9 maxI b).1).length = (aB9 maxI b).1 := by
  unfold bP6 at h3;simp
  omega
 have hh : b.take (bP6 b) = head ((b.drop (aB9 maxI b).2.1).take (aB9 maxI b).1) := by
  unfold head;rw [a7, <- a9];unfold bP6;rw [List.take_add]
 refine ⟨by simp only; rw [a7]; omega, by simp only; unfold bP6; omega, by simp only; omega, ?_⟩;show b.take (bP6 b + 4) = aE1 _
 unfold aE1;rw [<- hh, List.take_add, <- h4]
end
section
open Go.RowKit Oct
theorem aG4 (w : World) (e : TypeId) (xs : List Value) : Rd (w.alloc (.cells xs.toArray e)) (w.heap.size + 1) (some ⟨w.heap.size, 0, none⟩) xs := by
 intro _;refine ⟨_, rfl, by simp, fun j u hu => ?_⟩;rw [show (⟨w.heap.size, 0, none⟩ : Addr).add j = ⟨w.heap.size, j, none⟩ by simp [Addr.add_lit], World.cell?_alloc_at _ _ _ _ rfl]
 simpa using hu
theorem bW6 {p : List UInt8} (h : ¬ 1048576 < p.length) : aF2 p = enc p.length ++ p ++ Crc.four (Crc.sum (enc p.length ++ p)) := if_neg h
end
section
open Go.RowKit Oct
theorem bR3 {P : Program} {T e : TypeId} {z : Value} {bytes : Nat} (ht : P.underlying T = some (.slice e)) (a7 : (P.info? e).map (fun i => (i.zero, i.size, i.bytes)) = some (some z, 1, bytes)) (A : Option Addr) (len cap hi : Nat) (h1 : hi <= cap) (X : Int) (hX : X = (hi : Int)) (w : World) :
  (Instr.slice T (.slice A len cap) none (some (.int .i64 X)) none).run P w = .ok (.slice A hi cap) w := by
 obtain ⟨i, a9, hz, a8, b8⟩ := info_parts a7;subst hX;rw [run_slice_h w T A len cap (by rw [ht]; simp [Program.elem, ht]) .i64 hi (by omega) (by omega)];have he : P.elem T = e := by simp [Program.elem, ht]
 rw [he, aS2 a9 a8];have hm : A.map (·.add 0) = A := by cases A <;> simp [Addr.add]
 simp [sliced, Result.andThen, hm]
end
section
open Go.RowKit Oct
theorem bU0 (A : Option Addr) (l : List UInt8) (n c : Nat) (hn : n = l.length) (w : World) (hr : Rd w w.heap.size A (cells l)) (b8 : l.length <= c) (hl : l.length <= 140737488351232 ∧ c <= 9223372036854775807)
  (a7 : (aB9 maxI l).2.2 ≠ 0 ∨ 1048576 < (aB9 maxI l).1 ∨ l.length < bP6 l + 4) :
  Calls Tryz.prog 103 #[.slice A n c] w fun e w' => ∃ v, e = .returned (.tuple #[v, .int .i64 (aD7 l).2.1, .int .i64 (aD7 l).2.2]) ∧ Bs w' w.heap.size v (aD7 l).1 ∧ Below w.heap.size w w' := by
 subst hn;have d8 : (aB9 maxI l).1 <= 9223372036854775807 := bB4 maxI l;have hu := aX2 maxI l;have e9 : IntKind.i64.wrap ((l.length : Int) - ((aB9 maxI l).2.1 : Nat)) = (l.length : Int) - ((aB9 maxI l).2.1 : Nat) := mH _ (by omega);by_cases h1 : (aB9 maxI l).2.2 ≠ 0
 ·have HO : Hid (aD7 l = ([], 0, (aB9 maxI l).2.2)) := qZ (if_pos h1)
  have hd : ((aB9 maxI l).2.2 != 0) = true := by simpa using h1
  have a9 : ((aB9 maxI l).2.2 == 0) = false := by simpa using h1
  rw [HO.out];clear h1 a7;go_enter Tryz.func103, Tryz.ntmps103
  go_wp2_with fail
  refine (aO2 A l c w hr (by omega)).mono ?_;rintro e w1 ⟨rfl, hb⟩;go_wp2;go_ret3
  exact ⟨_, rfl, Own.nil _ _ _, hb⟩
 have a8 : (aB9 maxI l).2.2 = 0 := Classical.not_not.1 h1;by_cases h2 : 1048576 < (aB9 maxI l).1
 ·have HO : Hid (aD7 l = ([], 0, 2)) := qZ (by unfold aD7; rw [if_neg h1, if_pos h2])
  rw [HO.out];have HE := qZ a8;clear h1 a8 a7;go_enter Tryz.func103, Tryz.ntmps103
  go_wp2_with fail
  refine (aO2 A l c w hr (by omega)).mono ?_;rintro e w1 ⟨rfl, hb⟩;rw [HE.out];go_wp2;go_ret3
  exact ⟨_, rfl, Own.nil _ _ _, hb⟩
 have h3 : l.length < bP6 l + 4 := by
  rcases a7 with h | h | h
  ·exact absurd h h1
  ·exact absurd h h2
  exact h
 have HO : Hid (aD7 l = ([], 0, 3)) := qZ (by unfold aD7; rw [if_neg h1, if_neg h2, if_pos h3]);rw [HO.out];have HE := qZ a8;unfold bP6 at h3;clear h1 a8 a7;go_enter Tryz.func103, Tryz.ntmps103
 go_wp2_with fail
 refine (aO2 A l c w hr (by omega)).mono ?_;rintro e w1 ⟨rfl, hb⟩;rw [HE.out];go_wp2;go_ret3
 exact ⟨_, rfl, Own.nil _ _ _, hb⟩
theorem dK5 (W : World) (A : Option Addr) (X : List UInt8) (E c : Nat) (hE : E = X.length) : Rd (W.alloc (.cells #[.slice A E c] 34)) (W.alloc (.cells #[.slice A E c] 34)).heap.size (some ⟨W.heap.size, 0, none⟩) ([Row.mk A X c].map Row.val) := by
 subst hE;exact (aG4 W 34 [.slice A X.length c]).more (by simp)
theorem dK1 (A : Option Addr) (l : List UInt8) (n c : Nat) (hn : n = l.length) (w : World) (hr : Rd w w.heap.size A (cells l)) (l4 : l.length <= c) (hl : l.length <= 140737488351232 ∧ c <= 9223372036854775807)
  (h1 : (aB9 maxI l).2.2 = 0) (h2 : ¬ 1048576 < (aB9 maxI l).1) (h3 : ¬ l.length < bP6 l + 4) :
  Calls Tryz.prog 103 #[.slice A n c] w fun e w' => ∃ v, e = .returned (.tuple #[v, .int .i64 (aD7 l).2.1, .int .i64 (aD7 l).2.2]) ∧ Bs w' w.heap.size v (aD7 l).1 ∧ Below w.heap.size w w' := by
 subst hn;have m7 : (aB9 maxI l).1 <= 9223372036854775807 := bB4 maxI l;have hu := aX2 maxI l;have HE := qZ h1;obtain ⟨E, hE⟩ : ∃ E, E = bP6 l := ⟨_, rfl⟩
 have i2 : E = (aB9 maxI l).2.1 + (aB9 maxI l).1 := hE;have b8 : Hid (Crc.four (Crc.sum (l.take E)) = (l.drop E).take 4 -> aD7 l = ((l.drop (aB9 maxI l).2.1).take (aB9 maxI l).1, E + 4, 0)) := qZ fun h => by
  unfold aD7;rw [if_neg (by simpa using h1), if_neg h2, if_neg h3, <- hE, if_pos h]
 have a8 : Hid (¬ Crc.four (Crc.sum (l.take E)) = (l.drop E).take 4 -> aD7 l = ([], 0, 5)) := qZ fun h => by
  unfold aD7;rw [if_neg (by simpa using h1), if_neg h2, if_neg h3, <- hE, if_neg h]
 have g6 : E + 4 <= l.length := by omega
 clear h1 h3 hE;have o8 : IntKind.i64.wrap ((l.length : Int) - ((aB9 maxI l).2.1 : Nat)) = (l.length : Int) - ((aB9 maxI l).2.1 : Nat) := mH _ (by omega);go_enter Tryz.func103, Tryz.ntmps103
 go_wp2_with fail
 refine (aO2 A l c w hr (by omega)).mono ?_;rintro e w1 ⟨rfl, m0⟩;rw [HE.out];go_upto_region 9 with fail
 generalize (aB9 maxI l).1 = N at i2 b8 h2 m7 ⊢
 generalize (aB9 maxI l).2.1 = U at i2 b8 hu ⊢
 have n7 : (l.take E).length = E := by rw [lV]; omega
 have j9 : ((l.drop E).take 4).length = 4 := by simp; omega
 have f8 := fun W : World => bR3 (P := Tryz.prog) Tryz.underlying34 aG0 A l.length c E (by omega) (E : Int) rfl W
 obtain ⟨E4, i3⟩ : ∃ E4, E4 = E + 4 := ⟨_, rfl⟩
 have f9 : ∀ W : World, (Instr.slice 34 (.slice A l.length c) (some (.int .i64 (E : Int))) (some (.int .i64 (E4 : Int))) none).run Tryz.prog W = .ok (.slice (cutA A E c) 4 (c - E)) W := fun W => by
  have := bM5 (P := Tryz.prog) Tryz.underlying34 aG0 A l.length c E E4 (by omega) (by omega) (E : Int) (E4 : Int) rfl rfl W
  rwa [i3, Nat.add_sub_cancel_left, <- i3] at this
 have m8 : Rd w w.heap.size A (cells (l.take E)) := by simpa [cells, List.map_take] using hr.take E
 have e9 : Rd w w.heap.size (cutA A E c) (cells ((l.drop E).take 4)) := by
  have := (Rd.cutA hr (k := E) (cap := c) (by rw [aA2]; omega) (by rw [aA2]; exact l4)).take 4
  simpa [cells, List.map_take, List.map_drop] using this
 have a9 : Below w.heap.size w (w1.drew.alloc (.cells #[.slice A E c] 34)) := m0.drew.alloc m0.size _;have m9 := dK5 w1.drew A (l.take E) E c n7.symm;have n6 : RRd (w1.drew.alloc (.cells #[.slice A E c] 34)) (w1.drew.alloc (.cells #[.slice A E c] 34)).heap.size [Row.mk A (l.take E) c] := by
  intro p hp;obtain rfl := List.mem_singleton.1 hp;exact ⟨(m8.below a9).more a9.size, by show (l.take E).length <= _; omega⟩
 have m6 : aG6 [Row.mk A (l.take E) c] = l.take E := by simp [aG6]
 have m5 := fun W : World => bM5 (P := Tryz.prog) Tryz.underlying34 aG0 A l.length c U E (by omega) (by omega) (U : Int) (E : Int) rfl rfl W
 have l5 : Rd w w.heap.size (cutA A U c) (cells ((l.drop U).take N)) := by
  have := (Rd.cutA hr (k := U) (cap := c) (by rw [aA2]; omega) (by rw [aA2]; exact l4)).take N
  simpa [cells, List.map_take, List.map_drop] using this
 have j6 : ((l.drop U).take N).length = E - U := by simp; omega
 have f7 : ((l.drop U).take N).length <= 140737488351232 := by omega
 have hS := Crc.sum_lt (l.take E);have z1 : IntKind.i64.wrap ((U : Int) + (N : Int)) = (E : Int) := by rw [show (U : Int) + N = E by omega]; exact mH _ (by omega)
 have z2 : IntKind.i64.wrap ((E : Int) + 4) = (E4 : Int) := by rw [show (E : Int) + 4 = E4 by omega]; exact mH _ (by omega)
 have Z5 : Hid ((U : Int) + (N : Int) = (E : Int)) := qZ (by omega);generalize (l.drop U).take N = M at l5 j6 f7 b8
 generalize (l.drop E).take 4 = F at e9 j9 b8 a8
 have n8 := qZ j9;have n9 := qZ m6;have HS := qZ hS;have o7 := qZ j6;have o9 := qZ i3;have l8 := qZ m9;have l9 := qZ n6;have l7 := qZ e9;have i6 := qZ l5;have l6 := qZ a9;have i4 := qZ g6;have p0 := qZ i2;clear n7 j9 i3 m9 n6 m6 j6 i2 e9 l5 m8 a9 hS hr o8 hu m7 h2 g6 l4;go_region_held3 (fun _ => True) ((first | trivial)) (first | (go_at_call 153; refine (cY6 _ [Row.mk A (l.take E) c] 1 1 rfl _ l8.out l9.out (by simp)).mono ?_; rintro e w3 ⟨rfl, m2⟩; rw [n9.out]; have d8 := l6.out.trans (m2.mono l6.out.size)) | (go_at_call 152; refine (cJ0 (Crc.sum (l.take E)) _ rfl HS.out _).mono ?_; rintro e w4 ⟨v4, rfl, g7, m3⟩; obtain ⟨A4, c4, rfl, p4, _, e9⟩ := aD5 g7; have a7 := d8.trans (m3.mono d8.size)) | (go_at_call 151; refine (cS8 A4 (cutA A E c) (Crc.four (Crc.sum (l.take E))) F _ _ c4 (c - E) w4.heap.size (by rfl) n8.out.symm _ e9 ((l7.out.below a7).more a7.size)).mono ?_; rintro e w5 ⟨rfl, rfl⟩))
 clear z1 z2 f8 f9 e9 l7 l8 l9 m2 m3 g7 d8;generalize Crc.four (Crc.sum (l.take E)) = G at b8 a8 ⊢
 by_cases h4 : G = F
 ·rw [decide_eq_true h4]
  have HO := qZ (b8.out h4);have i1 : Rd w4 w4.heap.size (cutA A U c) (cells M) := (i6.out.below a7).more a7.size;have z5 := Z5.out;have z6 := i4.out;clear b8 a8 h4 i6;go_wp2_with fail
  refine (aU7 (cutA A U c) M (E - U) (c - U) o7.out.symm w4 i1 f7).mono ?_;rintro e w6 ⟨v6, rfl, g8, m4⟩;have j8 := a7.trans (m4.mono a7.size);have g9 := g8.mono a7.size;clear g8 m4 i1;go_wp2;go_ret3
  rw [HO.out];exact ⟨_, rfl, g9, j8⟩
 rw [decide_eq_false h4];have HO := qZ (a8.out h4);clear b8 a8 h4 i6;go_wp2;go_ret3
 rw [HO.out];exact ⟨_, rfl, Own.nil _ _ _, a7⟩
theorem cK1 (A : Option Addr) (l : List UInt8) (n c : Nat) (hn : n = l.length) (w : World) (hr : Rd w w.heap.size A (cells l)) (a7 : l.length <= c) (hl : l.length <= 140737488351232 ∧ c <= 9223372036854775807) :
  Calls Tryz.prog 103 #[.slice A n c] w fun e w' => ∃ v, e = .returned (.tuple #[v, .int .i64 (aD7 l).2.1, .int .i64 (aD7 l).2.2]) ∧ Bs w' w.heap.size v (aD7 l).1 ∧ Below w.heap.size w w' := by
 by_cases h1 : (aB9 maxI l).2.2 ≠ 0
 ·exact bU0 A l n c hn w hr a7 hl (.inl h1)
 by_cases h2 : 1048576 < (aB9 maxI l).1
 ·exact bU0 A l n c hn w hr a7 hl (.inr (.inl h2))
 by_cases h3 : l.length < bP6 l + 4
 ·exact bU0 A l n c hn w hr a7 hl (.inr (.inr h3))
 exact dK1 A l n c hn w hr a7 hl (Classical.not_not.1 h1) h2 h3
end
section
open Go.RowKit Oct
def dP2 (w : World) (base : Nat) (v : Value) (l : List UInt8) : Prop := ∃ g rest, v = .slice (some ⟨g, 0, none⟩) l.length l.length ∧ base <= g ∧ Blk w g 5 (cells l ++ rest).toArray
theorem dE7 {P : Program} {T e : TypeId} {z : Value} {bytes : Nat} (ht : P.underlying T = some (.slice e)) (a7 : (P.info? e).map (fun i => (i.zero, i.size, i.bytes)) = some (some z, 1, bytes)) (A : Option Addr) (len cap hi : Nat) (h1 : hi <= cap) (X : Int) (hX : X = (hi : Int)) (w : World) :
  (Instr.slice T (.slice A len cap) none (some (.int .i64 X)) (some (.int .i64 X))).run P w = .ok (.slice A hi hi) w := by
 obtain ⟨i, a9, hz, a8, b8⟩ := info_parts a7;subst hX;rw [run_slice_hm w T A len cap (by rw [ht]; simp [Program.elem, ht]) .i64 .i64 hi hi (by omega) (by omega) (by omega)];have he : P.elem T = e := by simp [Program.elem, ht]
 rw [he, aS2 a9 a8];have hm : A.map (·.add 0) = A := by cases A <;> simp [Addr.add]
 simp [sliced, Result.andThen, hm]
theorem dI5 {g bp T : Nat} (h : bp < T) : cutA (some ⟨g, 0, none⟩) bp T = some ⟨g, bp, none⟩ := by
 unfold cutA;rw [if_neg (by omega)];simp [Addr.add_lit]
theorem cB0 (a b : List UInt8) (r : List Value) : splice (cells a ++ r) a.length (cells b) = cells (a ++ b) ++ r.drop b.length := by
 unfold splice;rw [aN7, <- aA2 a, List.take_left, List.append_assoc]
 congr 2
 rw [<- List.drop_drop, List.drop_left, aA2]
theorem bN6 {w : World} {ops : Array Oper} {rest : List Oper} {o : Oper} {a : Act} {Q : Exit -> Act -> World -> Prop} (d8 : o.guard = none) (d s : Operand)
  (ho : o.op = .call { callee := .builtin .copy, args := #[d, s], argTypes := #[34, 34] })
  (dp A : Option Addr) (dLen dCap n c : Nat) (hd : a.eval d = .slice dp dLen dCap) (hs : a.eval s = .slice A n c)
  (g : Nat) (acc : List UInt8) (r : List Value) (hb : Blk w g 5 (cells acc ++ r).toArray) (l : List UInt8) (hn : n = l.length) (e9 : l.length <= dLen) (a9 : 0 < l.length -> dp = some ⟨g, acc.length, none⟩) (b8 : l.length <= r.length)
  (B : Nat) (hr : Rd w B A (cells l)) (base : Nat) (w0 : World) (a7 : Below base w0 w) (a8 : base <= g)
  (h : ∀ w', Blk w' g 5 (cells (acc ++ l) ++ r.drop l.length).toArray -> Below base w0 w' -> wpList Tryz.prog ops Q rest (a.put o.dst (goInt l.length)) w') : wpList Tryz.prog ops Q (o :: rest) a w := by
 subst hn;obtain ⟨i, hi, _, f7, _⟩ := info_parts aG0;refine wpList_copy_splice d8 d s _ _ ho 5 Tryz.underlying34 (by rw [hi]; simp [f7]) dp A dLen dCap l.length c hd hs g acc.length (cells acc ++ r) 5 hb (cells l) (by rw [aA2]; exact (Nat.min_eq_left e9).symm) (fun h0 => ⟨a9 (by rw [aA2] at h0; exact h0), ?_⟩) (by rw [aA2, lT, aA2]; omega) (bI7 l) base w0 a7 a8 fun w' h1 h2 => ?_
 ·obtain ⟨ad, h1, _, h3⟩ := hr h0
  exact ⟨ad, h1, h3⟩
 have h3 := h1.out;rw [cB0] at h3;rw [aA2];exact h w' h3 h2
theorem cE1 (ps : List Row) (k : Nat) : (aG6 (ps.take k)).length <= (aG6 ps).length := by
 have h : aG6 ps = aG6 (ps.take k) ++ aG6 (ps.drop k) := by
  unfold aG6;rw [<- List.flatMap_append, List.take_append_drop]
 rw [h, lT];omega
theorem dB6 (ps : List Row) (h : 0 < ps.length) : aG6 (ps.take 1) = ps[0].l := by
 rw [bA3 ps 0 h];simp [aG6]
theorem dC5 (A : Option Addr) (ps : List Row) (n c : Nat) (hn : n = ps.length) (h2 : 2 <= ps.length) (w : World) (hr : Rd w w.heap.size A (ps.map Row.val)) (hp : RRd w w.heap.size ps) (hl : ps.length <= 140737488351232) (hf : (aG6 ps).length <= 140737488351232) (q7 : ps.length <= c) :
  Calls Tryz.prog 30 #[.slice A n c, .slice none 0 0] w fun e w' => ∃ v, e = .returned v ∧ dP2 w' w.heap.size v (aG6 ps) ∧ Below w.heap.size w w' := by
 subst hn;have HP := qZ hp;clear hp;go_enter Tryz.func30, Tryz.ntmps30
 go_wp2_with fail
 go_loop [44, 5, 7] (fun i s _ => ∃ k : Nat, k <= ps.length ∧ i = .int .i64 k ∧ s = .int .i64 ((aG6 (ps.take k)).length : Nat)) (fun i _ _ => ps.length - (intOf i).toNat)
 case atStart => exact ⟨0, by omega, rfl, rfl⟩
 obtain ⟨k, hk, rfl, rfl⟩ := hrel;by_cases hlt : k < ps.length
 ·obtain ⟨ad, rfl, m4, a7⟩ := bG6 hr hlt
  obtain ⟨a, l, c', a8⟩ : ∃ a l c', ps[k] = Row.mk a l c' := ⟨_, _, _, rfl⟩
  have hF := bA3 ps k hlt;have b8 := cE1 ps (k + 1);rw [hF, a8, lT] at b8;have a9 : (aG6 (ps.take (k + 1))).length = (aG6 (ps.take k)).length + l.length := by rw [hF, a8, lT]
  rw [a8] at a7;have g9 : w.cell? (ad.add k) = some (.slice a l.length c') := a7;have q5 : (k : Int) < ps.length := by omega
  have HL := qZ a9;replace b8 : (aG6 (ps.take k)).length + l.length <= (aG6 ps).length := b8;generalize (aG6 (ps.take k)).length = N at b8 HL ⊢
  clear a8 a7 hF a9;go_wp2;exact ⟨⟨k + 1, by omega, by go_num, by rw [HL.out]; go_num⟩, by simp [intOf]; omega⟩
 obtain rfl : k = ps.length := by omega
 rw [List.take_length];obtain ⟨T, hT⟩ : ∃ T, T = (aG6 ps).length := ⟨_, rfl⟩
 rw [<- hT] at hf ⊢;have HT := qZ hT;clear hT;obtain ⟨cs, g7, b8, _⟩ := Lib.run_makeNoZero (P := Tryz.prog) w #[3] 34 5 Tryz.underlying34 T (by omega);have j8 : (callFunc 82 #[.int .i64 (T : Int)]).run Tryz.prog w = .ok (.value (.slice (some ⟨w.heap.size, 0, none⟩) T cs.size)) ((w.alloc (.cells cs 5)).drewN 2) := by
  rw [run_callFunc_extern Tryz.func82 (by kernel_rfl) (by kernel_rfl) (by kernel_rfl) (e := Extern.BytealgMakeNoZero.makeNoZero #[3] #[34]) (by kernel_rfl), g7]
  rfl
 have hcut := fun W : World => dE7 (P := Tryz.prog) Tryz.underlying34 aG0 (some ⟨w.heap.size, 0, none⟩) T cs.size T b8 (T : Int) rfl W
 clear g7;obtain ⟨ad, rfl, m4, a7⟩ := bG6 hr (k := 0) (by omega);obtain ⟨a0, l0, c0, a8⟩ : ∃ a l c', ps[0] = Row.mk a l c' := ⟨_, _, _, rfl⟩
 have m5 : aG6 (ps.take 1) = l0 := by rw [dB6 ps (by omega), a8]
 have l5 := cE1 ps 1;rw [m5, <- HT.out] at l5;have i1 := HP.out _ (lX (show 0 < ps.length by omega));rw [a8] at a7 i1;have l8 : Below w.heap.size w ((w.alloc (.cells cs 5)).drewN 2) := aA4 ((lS _ _).alloc (lR _) _) 2;have e9 : ((w.alloc (.cells cs 5)).drewN 2).cell? (ad.add 0) = some (.slice a0 l0.length c0) := (l8.cell (by rw [aC5]; exact m4)).trans a7;rw [show ad.add 0 = ad by simp [Addr.add]] at e9;have f9 : Blk ((w.alloc (.cells cs 5)).drewN 2) w.heap.size 5 (cells [] ++ cs.toList).toArray := by rw [cR4, List.nil_append, Array.toArray_toList]; exact (Blk.new w 5 cs).drewN 2
 have l6 : Rd ((w.alloc (.cells cs 5)).drewN 2) w.heap.size a0 (cells l0) := i1.1.below l8;have q6 : (0 : Int) < ps.length := by omega
 have m3 : Hid (l0.length <= cs.toList.length) := qZ (by have := @Array.length_toList _ cs; omega);have m2 := qZ m5;have i3 := qZ l6;have f8 := qZ f9;have m9 := qZ l8;clear a8 a7 m5 i1 l6 f9 l8;go_wp2_with (with_reducible refine bN6 rfl (.tmp 64) (.tmp 67) rfl (some ⟨w.heap.size, 0, none⟩) a0 T T l0.length c0 rfl rfl w.heap.size [] cs.toList f8.out l0 rfl l5 (fun _ => rfl) m3.out w.heap.size i3.out w.heap.size w m9.out (lR _) ?_; intro w1 g6 p6)
 have n7 : 1 <= c := by omega
 have g8 : Blk w1 w.heap.size 5 (cells (aG6 (ps.take 1)) ++ cs.toList.drop (aG6 (ps.take 1)).length).toArray := by rw [m2.out]; simpa using g6
 have p4 : Hid ((l0.length : Int) = ((aG6 (ps.take (0 + 1))).length : Nat)) := qZ (by rw [m2.out]);clear g6 i3 f8 m9 e9 j8 hcut m2;go_wp2_with fail
 go_loopw [72, 9, 11] (fun i bp _ wr => ∃ k : Nat, k <= ps.length - 1 ∧ i = .int .i64 k ∧ bp = .int .i64 ((aG6 (ps.take (k + 1))).length : Nat) ∧ Blk wr w.heap.size 5 (cells (aG6 (ps.take (k + 1))) ++ cs.toList.drop (aG6 (ps.take (k + 1))).length).toArray ∧ Below w.heap.size w wr) (fun i _ _ _ => ps.length - (intOf i).toNat)
 case atStart => exact ⟨0, by omega, rfl, by rw [p4.out], g8, p6⟩
 obtain ⟨k, hk, rfl, rfl, d8, j6⟩ := hrel;by_cases hlt : k < ps.length - 1
 rotate_left
 ·obtain rfl : k = ps.length - 1 := by omega
  have p9 : aG6 (ps.take (ps.length - 1 + 1)) = aG6 ps := by rw [show ps.length - 1 + 1 = ps.length by omega, List.take_length]
  rw [p9] at d8 ⊢;go_wp2;go_ret
  refine ⟨_, rfl, ?_, j6⟩;rw [HT.out];exact ⟨_, _, rfl, lR _, d8⟩
 obtain ⟨p5, n6, p8, a7⟩ := bG6 hr (k := k + 1) (by omega);obtain rfl : ad = p5 := by injection n6
 obtain ⟨a, l, c', a8⟩ : ∃ a l c', ps[k + 1]'(by omega) = Row.mk a l c' := ⟨_, _, _, rfl⟩
 have hF := bA3 ps (k + 1) (by omega);have b8 := cE1 ps (k + 1 + 1);rw [hF, a8, lT, <- HT.out] at b8;replace b8 : (aG6 (ps.take (k + 1))).length + l.length <= T := b8;have a9 : (aG6 (ps.take (k + 1 + 1))).length = (aG6 (ps.take (k + 1))).length + l.length := by rw [hF, a8, lT]
 rw [a8] at hF;have m8 := HP.out _ (lX (show k + 1 < ps.length by omega));rw [a8] at a7 m8;have g9 : wr.cell? ⟨ad.block, ad.off + 1 + k, none⟩ = some (.slice a l.length c') := by
  have h1 := (j6.cell (p := ad.add (k + 1)) (by rw [aC5]; exact m4)).trans a7;have h2 : ad.add (k + 1) = ⟨ad.block, ad.off + 1 + k, none⟩ := by unfold Addr.add; rw [if_neg (by omega), show ad.off + (k + 1) = ad.off + 1 + k by omega]
  rw [h2] at h1;exact h1
 have o7 : Rd wr w.heap.size a (cells l) := m8.1.below j6;have q5 : (k : Int) < ((ps.length - 1 : Nat) : Int) := by omega
 obtain ⟨f7, i4⟩ : ∃ f7, f7 = aG6 (ps.take (k + 1)) := ⟨_, rfl⟩
 rw [<- i4] at d8 b8 a9 hF ⊢;obtain ⟨N, hN⟩ : ∃ N, N = f7.length := ⟨_, rfl⟩
 have n8 := fun W : World => aO1 (P := Tryz.prog) Tryz.underlying34 aG0 (some ⟨w.heap.size, 0, none⟩) T T N (by omega) (N : Int) rfl W
 have l4 : l.length <= (cs.toList.drop f7.length).length := by have := @Array.length_toList _ cs; rw [lZ]; omega
 have j9 : 0 < l.length -> cutA (some ⟨w.heap.size, 0, none⟩) N T = some ⟨w.heap.size, f7.length, none⟩ := fun h0 => by rw [dI5 (by omega), hN]
 have HH : Hid (aG6 (ps.take (k + 1 + 1)) = f7 ++ l) := qZ hF;have HL : Hid (((N : Int) + l.length) = ((aG6 (ps.take (k + 1 + 1))).length : Nat)) := qZ (by rw [a9, hN]; omega);have o9 : Hid ((aG6 (ps.take (k + 1 + 1))).length = f7.length + l.length) := qZ a9;have l9 := qZ d8;have p0 := qZ o7;have i2 := qZ l4;have m0 := qZ j9;have o8 := qZ j6;rw [<- hN] at b8 ⊢;have m7 : l.length <= T - N := by omega
 clear a8 a7 hF a9 m8 hN i4 d8 o7 l4 j9 j6 n6 hk;obtain ⟨i5, n9, _, l7, _⟩ := info_parts aG0;have m6 : (Tryz.prog.info? 5).map (·.size) = some 1 := by rw [n9]; simp [l7]
 clear n9 l7;go_wp2_with (first | (with_reducible refine wpList_copy_nothing rfl (.tmp 79) (.tmp 80) _ _ rfl 5 Tryz.underlying34 m6 (cutA (some ⟨w.heap.size, 0, none⟩) N T) none (T - N) (T - N) 0 0 rfl rfl (by simp) ?_) | (with_reducible refine bN6 rfl (.tmp 86) (.tmp 87) rfl (cutA (some ⟨w.heap.size, 0, none⟩) N T) a (T - N) (T - N) l.length c' rfl rfl w.heap.size f7 (cs.toList.drop f7.length) l9.out l rfl m7 m0.out i2.out w.heap.size p0.out w.heap.size w o8.out (lR _) ?_); intro w2 i6 p7)
 go_roundw
 case rel =>
  refine ⟨k + 1, by omega, by go_num, by rw [HL.out], ?_, p7⟩;rw [o9.out, HH.out, <- List.drop_drop];exact i6
 case measure => simp [intOf]; omega
structure Got (w : World) (base : Nat) (v : Value) (l : List UInt8) : Prop where
 shape : ∃ A c, v = .slice A l.length c ∧ l.length <= c ∧ c <= 9223372036854775807 ∧ Rd w w.heap.size A (cells l)
 row : aP9 w base v
theorem Got.of_own {w : World} {base : Nat} {v : Value} {l : List UInt8} (h : Bs w base v l) : Got w base v l := by
 obtain ⟨A, c, h1, h2, h3, h4⟩ := aD5 h;exact ⟨⟨A, c, h1, h2, by omega, h4⟩, aP9.of_own h⟩
theorem Got.of_held {w : World} {base : Nat} {v : Value} {l : List UInt8} (h : dP2 w base v l) (hl : l.length <= 9223372036854775807) : Got w base v l := by
 obtain ⟨g, rest, rfl, hb, a7⟩ := h;refine ⟨⟨_, _, rfl, lR _, hl, fun _ => ⟨_, rfl, a7.lt, fun j u hu => ?_⟩⟩, .inr ⟨g, _, _, _, rfl, hb, a7, by simp [cells], lR _, hl⟩⟩;rw [show (⟨g, 0, none⟩ : Addr).add j = ⟨g, j, none⟩ by simp [Addr.add_lit], a7.cell];have hj : j < (cells l).length := (List.getElem?_eq_some_iff.1 hu).1;simp only [List.getElem?_toArray];rw [List.getElem?_append_left hj];exact hu
theorem Got.below {w w' : World} {base B : Nat} {v : Value} {l : List UInt8} (h : Got w base v l) (hb : Below B w w') (hB : w.heap.size <= B) : Got w' base v l := by
 obtain ⟨A, c, h1, h2, h3, h4⟩ := h.shape;have a7 := hb.mono hB;exact ⟨⟨A, c, h1, h2, h3, (h4.below a7).more a7.size⟩, h.row.keep fun g hg => a7.block g (h.row.lt g hg)⟩
theorem Got.mono {w : World} {base base' : Nat} {v : Value} {l : List UInt8} (h : Got w base v l) (hb : base' <= base) : Got w base' v l := by
 refine ⟨h.shape, ?_⟩;rcases h.row with r | ⟨g, n, cap, a7, r, hg, x⟩
 ·exact .inl r
 exact .inr ⟨g, n, cap, a7, r, by omega, x⟩
theorem bT2 (A : Option Addr) (ps : List Row) (n c : Nat) (hn : n = ps.length) (w : World) (hr : Rd w w.heap.size A (ps.map Row.val)) (hp : RRd w w.heap.size ps) (hl : ps.length <= 140737488351232) (hf : (aG6 ps).length <= 140737488351232) (a8 : ps.length <= c) :
  Calls Tryz.prog 30 #[.slice A n c, .slice none 0 0] w fun e w' => ∃ v, e = .returned v ∧ Got w' w.heap.size v (aG6 ps) ∧ Below w.heap.size w w' := by
 by_cases h2 : 2 <= ps.length
 ·refine (dC5 A ps n c hn h2 w hr hp hl hf a8).mono ?_
  rintro e w' ⟨v, rfl, h, hb⟩;exact ⟨v, rfl, .of_held h (by omega), hb⟩
 subst hn
 match ps, hr, hp, hf, a8, h2 with
 | [], hr, hp, hf, a8, h2 =>
  clear hr hp hf hl h2;go_enter Tryz.func30, Tryz.ntmps30
  go_wp2;go_ret
  exact ⟨_, rfl, .of_own (bM0 w w.heap.size _ (lR _)), (lS _ _).alloc (lR _) _⟩
 | [r], hr, hp, hf, a8, h2 =>
  obtain ⟨ad, rfl, f8, a7⟩ := bG6 hr (k := 0) (by simp);obtain ⟨a, l, c'⟩ := r;have e9 := hp _ (List.mem_singleton.2 rfl);have b8 : aG6 [Row.mk a l c'] = l := by simp [aG6]
  rw [b8] at hf ⊢;have a9 : w.cell? ad = some (.slice a l.length c') := by
   rw [show ad.add 0 = ad by simp [Addr.add]] at a7;exact a7
  have f7 : Rd w w.heap.size a (cells l) := e9.1;have f9 : 0 < c := by simp at a8; omega
  clear hr hp e9 h2 b8 a7 a8;go_enter Tryz.func30, Tryz.ntmps30
  go_wp2_with (at_builtin; with_reducible refine aB5 rfl (.const (.slice none 0 0)) (.tmp 21) 34 rfl w.heap.size 5 (.int .u8 0) 1 Tryz.underlying34 aG0 rfl _ [] rfl (Own.nil _ _ _) w.heap.size a l.length c' _ rfl (aA2 _).symm f7 (bI7 _) (by unfold maxLen; simp; omega) (by simp; omega) (lR _) ?_; intro v1 w1 d8 hg g6)
  go_ret
  refine ⟨_, rfl, ?_, aG5 hg⟩;rw [List.nil_append] at d8;exact .of_own d8
 | _ :: _ :: _, hr, hp, hf, a8, h2 => exact absurd (by simp) h2
end
section
open Go.RowKit Oct
theorem aK9 {p : List UInt8} (h : ¬ 1048576 < p.length) : aF2 p = aE1 p := if_neg h
theorem cK6 (W : World) (t : TypeId) (ps : List Row) (h : RRd W W.heap.size ps) : Rd (W.alloc (.cells (ps.map Row.val).toArray t)) (W.alloc (.cells (ps.map Row.val).toArray t)).heap.size (some ⟨W.heap.size, 0, none⟩) (ps.map Row.val) ∧ RRd (W.alloc (.cells (ps.map Row.val).toArray t)) (W.alloc (.cells (ps.map Row.val).toArray t)).heap.size ps := by
 refine ⟨(aG4 W t _).more (by simp), fun p hp => ⟨?_, (h p hp).2⟩⟩;have hb : Below W.heap.size W (W.alloc (.cells (ps.map Row.val).toArray t)) := (lS _ _).alloc (lR _) _;exact ((h p hp).1.below hb).more hb.size
theorem RRd.below {w w' : World} {B : Nat} {ps : List Row} (h : RRd w B ps) (hb : Below B w w') (hB : B <= w'.heap.size) : RRd w' w'.heap.size ps := fun p hp => ⟨((h p hp).1.below hb).more hB, (h p hp).2⟩
theorem RRd.cons {w : World} {B : Nat} {A : Option Addr} {l : List UInt8} {c : Nat} {ps : List Row} (h : Rd w B A (cells l)) (hl : l.length <= 4611686018427387904) (k : RRd w B ps) : RRd w B (Row.mk A l c :: ps) := by
 intro p hp;rcases List.mem_cons.1 hp with rfl | hp
 ·exact ⟨h, hl⟩
 exact k p hp
theorem RRd.snoc {w : World} {B : Nat} {A : Option Addr} {l : List UInt8} {c : Nat} {ps : List Row} (k : RRd w B ps) (h : Rd w B A (cells l)) (hl : l.length <= 4611686018427387904) : RRd w B (ps ++ [Row.mk A l c]) := by
 intro p hp;rcases List.mem_append.1 hp with hp | hp
 ·exact k p hp
 obtain rfl := List.mem_singleton.1 hp;exact ⟨h, hl⟩
theorem RRd.nil {w : World} {B : Nat} : RRd w B [] := fun p hp => by cases hp
theorem cR6 (A : Option Addr) (p : List UInt8) (n c : Nat) (hn : n = p.length) (w : World) (hr : Rd w w.heap.size A (cells p)) (hl : p.length <= 140737488351232) :
  Calls Tryz.prog 118 #[.slice A n c] w fun e w' => ∃ v, e = .returned (.tuple #[v, .int .i64 (cR5 p)]) ∧ Got w' w.heap.size v (aF2 p) ∧ Below w.heap.size w w' := by
 subst hn;by_cases h0 : 1048576 < p.length
 ·have h1 : cR5 p = 2 := if_pos h0
  have h2 : aF2 p = [] := if_pos h0;rw [h1, h2];clear h1 h2;go_enter Tryz.func118, Tryz.ntmps118
  go_wp2;go_ret2
  exact ⟨_, rfl, .of_own (Own.nil _ _ _), lS _ _⟩
 have h1 : cR5 p = 0 := if_neg h0;have m4 := aM0 p.length (by omega);have HC : Hid (aF2 p = aG6 [Row.mk none (enc p.length) 0, Row.mk none p 0, Row.mk none (Crc.four (Crc.sum (enc p.length ++ p))) 0]) := qZ (by rw [aK9 h0]; simp [aG6, aE1, head]);rw [h1];clear h1;go_enter Tryz.func118, Tryz.ntmps118
 go_wp2_with fail
 refine (cL2 p.length w (by omega)).mono ?_;rintro e w1 ⟨v1, rfl, f9, g9⟩;obtain ⟨A1, c1, rfl, m2, m5, l8⟩ := aD5 f9;have hs := Crc.sum_lt (enc p.length ++ p);have l5 : (Crc.four (Crc.sum (enc p.length ++ p))).length = 4 := Crc.four_length _;have a8 : ∀ a b c, aG6 [Row.mk A1 (enc p.length) a, Row.mk A p b, c] = aG6 [Row.mk none (enc p.length) 0, Row.mk none p 0, Row.mk none c.l 0] := fun a b c => by simp [aG6]
 have g8 : aG6 [Row.mk A1 (enc p.length) c1, Row.mk A p c] = enc p.length ++ p := by simp [aG6]
 have l7 := (hr.below g9).more g9.size;have j6 : RRd w1 w1.heap.size [Row.mk A1 (enc p.length) c1, Row.mk A p c] := .cons l8 (by omega) (.cons l7 (by omega) .nil);obtain ⟨k1, k2⟩ := cK6 w1 34 _ j6;have HS := qZ hs;have H4 := qZ l5;have l9 := qZ a8;have i1 := qZ g8;have K1 := qZ k1;have K2 := qZ k2;have j9 := qZ j6;have i6 := (lS w1.heap.size w1).alloc (lR _) (.cells ([Row.mk A1 (enc p.length) c1, Row.mk A p c].map Row.val).toArray 34);have a7 := g9.alloc g9.size (.cells ([Row.mk A1 (enc p.length) c1, Row.mk A p c].map Row.val).toArray 34);clear hs l5 a8 g8 k1 k2 j6 hr l7 l8 f9;go_wp2_with fail
 refine (cY6 _ [Row.mk A1 (enc p.length) c1, Row.mk A p c] 2 2 rfl _ K1.out K2.out (by simp)).mono ?_;rintro e w2 ⟨rfl, i3⟩;rw [i1.out];have a9 := a7.trans (i3.mono a7.size);have d8 := i6.trans (i3.mono i6.size);clear i3 a7 K1 K2 i6;go_wp2_with fail
 refine (cJ0 (Crc.sum (enc p.length ++ p)) _ rfl HS.out w2).mono ?_;rintro e w3 ⟨v3, rfl, g6, i4⟩;obtain ⟨A3, c3, rfl, m3, m6, j8⟩ := aD5 g6;have b8 := a9.trans (i4.mono a9.size);have e9 := d8.trans (i4.mono d8.size);have l6 := j9.out.below e9 e9.size;generalize Crc.four (Crc.sum (enc p.length ++ p)) = F at j8 H4 HC ⊢
 have hF : F.length <= 4 := by rw [H4.out]; omega
 have g7 : RRd w3 w3.heap.size [Row.mk A1 (enc p.length) c1, Row.mk A p c, Row.mk A3 F c3] := l6.snoc j8 (by omega);obtain ⟨k1, k2⟩ := cK6 w3 34 _ g7;have K1 := qZ k1;have K2 := qZ k2;have m0 : Hid ((aG6 [Row.mk A1 (enc p.length) c1, Row.mk A p c, Row.mk A3 F c3]).length <= 140737488351232) := qZ (by simp [aG6]; omega);have a7 := b8.alloc b8.size (.cells ([Row.mk A1 (enc p.length) c1, Row.mk A p c, Row.mk A3 F c3].map Row.val).toArray 34);clear l6 g7 k1 k2 j8 g6 i4 a9 b8 d8 e9 j9 hF;go_wp2_with fail
 refine (bT2 _ [Row.mk A1 (enc p.length) c1, Row.mk A p c, Row.mk A3 F c3] 3 3 rfl _ K1.out K2.out (by simp) m0.out (by simp)).mono ?_;rintro e w4 ⟨v4, rfl, f7, l4⟩;rw [l9.out, <- HC.out] at f7;have i2 := a7.trans (l4.mono a7.size);have f8 := f7.mono a7.size;clear f7 l4 a7 K1 K2;go_wp2;go_ret2
 exact ⟨_, rfl, f8, i2⟩
end
section
open Go.RowKit Oct
structure aI0 (w : World) (base : Nat) (v : Value) (xs : List Value) (ls : List (List UInt8)) : Prop where
 own : Own w base 34 v xs
 len : xs.length = ls.length
 got : ∀ i (h : i < xs.length) (h' : i < ls.length), Got w base xs[i] ls[i]
 apart : dO3 xs
 off : ∀ x ∈ xs, ∀ g, x.ownBlock = some g -> v.ownBlock ≠ some g
theorem aI0.nil (w : World) (base : Nat) : aI0 w base (.slice none 0 0) [] [] :=
 ⟨Own.nil _ _ _, rfl, fun i h _ => absurd h (by simp), fun i j hi => absurd hi (by simp), fun x hx => by cases hx⟩
theorem aI0.below {w w' : World} {base : Nat} {v : Value} {xs : List Value} {ls : List (List UInt8)} (h : aI0 w base v xs ls) {B : Nat} (hb : Below B w w') (hB : w.heap.size <= B) : aI0 w' base v xs ls :=
 ⟨h.own.below hb hB, h.len, fun i hi hi' => (h.got i hi hi').below hb hB, h.apart, h.off⟩
theorem aI0.drewN {w : World} {base : Nat} {v : Value} {xs : List Value} {ls : List (List UInt8)} (h : aI0 w base v xs ls) (n : Nat) : aI0 (w.drewN n) base v xs ls :=
 h.below (aA4 (lS _ w) n) (lR _)
theorem Got.kept {w w' : World} {base : Nat} {v : Value} {l : List UInt8} (h : Got w base v l) (hk : ∀ g, v.ownBlock = some g -> w'.heap[g]? = w.heap[g]?) (hs : w.heap.size <= w'.heap.size) : Got w' base v l := by
 obtain ⟨⟨A, c, rfl, h2, h3, h4⟩, r⟩ := h;refine ⟨⟨A, c, rfl, h2, h3, fun hn => ?_⟩, r.keep hk⟩;rcases r with r | ⟨g, n, cap, a7, r, _⟩
 ·obtain ⟨ad, h5, _⟩ := h4 hn
  injection r with r1
  rw [h5] at r1;cases r1
 obtain ⟨ad, h5, h6, h7⟩ := h4 hn;injection r with r1
 refine ⟨ad, h5, by omega, fun j u hu => ?_⟩;rw [h5] at r1;injection r1 with r1
 subst r1;exact (World.cell?_of_block (w := w) (by rw [aC5]; exact hk g (by rw [h5]; rfl))).trans (h7 j u hu)
theorem aI0.push {w w1 w2 : World} {base : Nat} {v v' x : Value} {xs : List Value} {ls : List (List UInt8)} {l : List UInt8} (h : aI0 w base v xs ls) (hb : Below w.heap.size w w1) (hx : Got w1 w.heap.size x l) (e9 : base <= w.heap.size)
  (g6 : Own w2 base 34 v' (xs ++ [x])) (hg : w1.grownBy w2 v.ownBlock) (hf : aS5 v' v.ownBlock w1.heap.size) : aI0 w2 base v' (xs ++ [x]) (ls ++ [l]) := by
 have h1 := h.below hb (lR _);have f7 : ∀ g, v.ownBlock = some g -> g < w.heap.size := fun g hv => (h.own.lt g hv).2
 have b8 : ∀ g, x.ownBlock = some g -> w.heap.size <= g := hx.row.base
 have f8 : ∀ g, x.ownBlock = some g -> g < w1.heap.size := hx.row.lt
 have a7 : ∀ y ∈ xs, ∀ g, y.ownBlock = some g -> g < w.heap.size := fun y hy g hg' => by
  obtain ⟨i, hi, rfl⟩ := List.getElem_of_mem hy;exact (h.got i hi (by rw [<- h.len]; exact hi)).row.lt g hg'
 refine ⟨g6, by simp [h.len], fun i hi hi' => ?_, ?_, ?_⟩
 ·by_cases hlt : i < xs.length
  ·rw [List.getElem_append_left hlt, List.getElem_append_left (by rw [<- h.len]; exact hlt)]
   refine (h1.got i hlt (by rw [<- h.len]; exact hlt)).kept (fun g hg' => hg.block g ?_ ?_) hg.size
   ·exact Nat.lt_of_lt_of_le (a7 _ (lX hlt) g hg') hb.size
   exact fun e => h.off _ (lX hlt) g hg' e.symm
  have f9 : i = xs.length := by simp at hi; omega
  subst f9;rw [List.getElem_append_right (lR _)];have e2 : (ls ++ [l])[xs.length]'(hi') = l := by
   rw [List.getElem_append_right (by rw [h.len]; exact lR _)];simp
  rw [e2];simp only [Nat.sub_self, List.getElem_cons_zero];refine (hx.mono e9).kept (fun g hg' => hg.block g (f8 g hg') ?_) hg.size;intro e;have a1 := f7 g e.symm;have a2 := b8 g hg';omega
 ·intro i j hi hj g7 g a9 a8
  simp only [lT, mC, List.length_nil] at hi hj;by_cases h1 : i < xs.length <;> by_cases h2 : j < xs.length
  ·rw [List.getElem_append_left h1] at a9
   rw [List.getElem_append_left h2] at a8;exact h.apart i j h1 h2 g7 g a9 a8
  ·rw [List.getElem_append_left h1] at a9
   have g8 : j = xs.length := by omega
   subst g8;rw [List.getElem_append_right (lR _)] at a8;simp at a8
   have a1 := a7 _ (lX h1) g a9;have a2 := b8 g a8;omega
  ·rw [List.getElem_append_left h2] at a8
   have f9 : i = xs.length := by omega
   subst f9;rw [List.getElem_append_right (lR _)] at a9;simp at a9
   have a1 := a7 _ (lX h2) g a8;have a2 := b8 g a9;omega
  omega
 intro y hy g a9 a8;have d8 : v.ownBlock = some g ∨ w1.heap.size <= g := by
  rcases hf with hf | ⟨k, hf, hk⟩
  ·exact .inl (hf.symm.trans a8)
  rw [hf] at a8;injection a8 with a8
  subst a8;exact .inr hk
 rcases List.mem_append.1 hy with hy | hy
 ·rcases d8 with d8 | d8
  ·exact h.off y hy g a9 d8
  have := a7 y hy g a9;have := hb.size;omega
 obtain rfl := List.mem_singleton.1 hy;rcases d8 with d8 | d8
 ·have a1 := f7 g d8
  have a2 := b8 g a9;omega
 have := f8 g a9;omega
theorem cM6 : (Tryz.prog.info? 34).map (fun i => (i.zero, i.size, i.bytes)) = some (some (.slice none 0 0), 1, 24) := by kernel_rfl
theorem cC0 {P : Program} {W w : World} {ops : Array Oper} {rest : List Oper} {o : Oper} {a : Act} {Q : Exit -> Act -> World -> Prop} (e9 : o.guard = none) (s x : Operand) (t : TypeId)
  (ho : o.op = .call { callee := .builtin .append, args := #[s, x], argTypes := #[t, t] })
  (base : Nat) (e : TypeId) (z : Value) (bytes : Nat) (ht : P.underlying t = some (.slice e)) (a9 : (P.info? e).map (fun i => (i.zero, i.size, i.bytes)) = some (some z, 1, bytes)) (f7 : z.cells.size = 1)
  (v : Value) (xs : List Value) (u : Value) (hW : W = w.alloc (.cells #[u] e)) (hs : a.eval s = v) (d8 : Own w base e v xs)
  (hx : a.eval x = .slice (some ⟨w.heap.size, 0, none⟩) 1 1) (h1 : u.oneCell' = true)
  (b8 : xs.length + 1 <= 9223372036854775807) (a7 : (xs.length + 1) * bytes <= 140737488355328) (a8 : base <= w.heap.size)
  (h : ∀ v' w', Own w' base e v' (xs ++ [u]) -> w.grownBy w' v.ownBlock -> aS5 v' v.ownBlock w.heap.size -> wpList P ops Q rest (a.put o.dst v') w') : wpList P ops Q (o :: rest) a W := by
 subst hW;exact aZ4 e9 s x t ho base e z bytes ht a9 f7 v xs u u rfl hs d8 hx h1 b8 a7 a8 h
def aO6 (l : List UInt8) (a : Nat) (acc : List (List UInt8)) : Prop := ∃ f, l.length < a + f ∧ aH6 l = (acc ++ (bD3 l f a).1, (bD3 l f a).2)
theorem aO6.start (l : List UInt8) : aO6 l 0 [] := ⟨l.length + 1, by omega, by simp [aH6]⟩
theorem aO6.done {l : List UInt8} {a : Nat} {acc : List (List UInt8)} (h : aO6 l a acc) (ha : l.length <= a) : aH6 l = (acc, a, 0) := by
 obtain ⟨f, hf, h⟩ := h;rw [h];cases f with
 | zero => simp [bD3]
 | succ f => simp [bD3, ha]
theorem aO6.bad {l : List UInt8} {a : Nat} {acc : List (List UInt8)} (h : aO6 l a acc) (ha : a < l.length) (he : (aD7 (l.drop a)).2.2 ≠ 0) : aH6 l = (acc, a, (aD7 (l.drop a)).2.2) := by
 obtain ⟨f, hf, h⟩ := h;rw [h];cases f with
 | zero => omega
 | succ f => simp [bD3, show ¬ l.length <= a by omega, he]
theorem aO6.step {l : List UInt8} {a : Nat} {acc : List (List UInt8)} (h : aO6 l a acc) (ha : a < l.length) (he : (aD7 (l.drop a)).2.2 = 0) : aO6 l (a + (aD7 (l.drop a)).2.1) (acc ++ [(aD7 (l.drop a)).1]) := by
 obtain ⟨f, hf, h⟩ := h;have hp := (aW3 he).2.1;cases f with
 | zero => omega
 | succ f =>
  refine ⟨f, by omega, ?_⟩;rw [h];simp [bD3, show ¬ l.length <= a by omega, he]
theorem aI0.rd {w : World} {base : Nat} {A : Option Addr} {n c : Nat} {xs : List Value} {ls : List (List UInt8)} (h : aI0 w base (.slice A n c) xs ls) : Rd w w.heap.size A xs := by
 obtain ⟨A', c', hv, _, _, hr⟩ := Own.shape h.own;injection hv with hv _ _
 rw [hv];exact hr
theorem aI0.at_ {w : World} {base : Nat} {A : Option Addr} {n c : Nat} {xs : List Value} {ls : List (List UInt8)} (h : aI0 w base (.slice A n c) xs ls) {k : Nat} (hk : k < ls.length) :
  ∃ ad a c', A = some ad ∧ ad.block < w.heap.size ∧ w.cell? (ad.add k) = some (.slice a ls[k].length c') ∧ Rd w w.heap.size a (cells ls[k]) ∧ ls[k].length <= c' := by
 have a7 : k < xs.length := by rw [h.len]; exact hk
 obtain ⟨ad, h1, h2, h3⟩ := h.rd.at_ a7;obtain ⟨a, c', h4, h5, _, h6⟩ := (h.got k a7 hk).shape;rw [h4] at h3;exact ⟨ad, a, c', h1, h2, h3, h6, h5⟩
end
section
open Go.RowKit Oct
theorem dE5 (A : Option Addr) (l : List UInt8) (n c : Nat) (hn : n = l.length) (w : World) (hr : Rd w w.heap.size A (cells l)) (m4 : l.length <= c) (hl : l.length <= 1099511627776 ∧ c <= 9223372036854775807) :
  Calls Tryz.prog 144 #[.slice A n c] w fun e w' => ∃ v xs, e = .returned (.tuple #[v, .int .i64 (aH6 l).2.1, .int .i64 (aH6 l).2.2]) ∧ aI0 w' w.heap.size v xs (aH6 l).1 ∧ Below w.heap.size w w' := by
 subst hn;obtain ⟨m8, m9⟩ := hl;go_enter Tryz.func144, Tryz.ntmps144
 go_wp2_with fail
 go_loopw [5, 6, 7, 8, 9] (fun v at_ _ _ _ wr => ∃ (a : Nat) (e9 : List (List UInt8)) (xs : List Value), a <= l.length ∧ at_ = .int .i64 a ∧ e9.length <= a ∧ aO6 l a e9 ∧ aI0 wr w.heap.size v xs e9 ∧ Below w.heap.size w wr) (fun _ i _ _ _ _ => l.length - (intOf i).toNat)
 case atStart => exact ⟨0, [], [], by omega, rfl, by simp, aO6.start l, aI0.nil _ _, lS _ _⟩
 obtain ⟨a, e9, xs, ha, rfl, i4, g8, a9, hb⟩ := hrel;by_cases hlt : a < l.length
 rotate_left
 ·obtain rfl : a = l.length := by omega
  have HF := qZ (g8.done (lR _));clear g8;go_wp2;go_ret3
  rw [HF.out];exact ⟨_, _, rfl, a9, hb⟩
 have g9 : (l.drop a).length = l.length - a := lZ;have hcut := fun W : World => aO1 (P := Tryz.prog) Tryz.underlying34 aG0 A l.length c a ha (a : Int) rfl W
 have i2 : Rd wr wr.heap.size (cutA A a c) (cells (l.drop a)) := by
  have := (Rd.cutA hr (k := a) (cap := c) (by rw [aA2]; omega) (by rw [aA2]; exact m4)).below hb;exact (by simpa [cells, List.map_drop] using this : Rd wr w.heap.size (cutA A a c) (cells (l.drop a))).more hb.size
 have m5 : (a : Int) < l.length := by omega
 have g7 := qZ g9.symm;have j8 := qZ g8;have f9 := a9.len;have i3 := qZ f9;have HG := qZ a9;obtain ⟨d, hd⟩ : ∃ d, d = l.drop a := ⟨_, rfl⟩
 have l8 : d.length <= c - a := by rw [hd, g9]; omega
 have l9 : d.length <= 140737488351232 := by rw [hd, g9]; omega
 rw [<- hd] at i2 g7;have HD := qZ hd;clear g9 g8 a9 f9 hd;go_wp2_with fail
 refine (cK1 (cutA A a c) d (l.length - a) (c - a) g7.out wr i2 l8 ⟨l9, by omega⟩).mono ?_;rintro e w1 ⟨p, rfl, i1, f7⟩;obtain ⟨Ap, cp, rfl, _⟩ := aD5 i1;have a7 := hb.trans (f7.mono hb.size);by_cases he : (aD7 d).2.2 = 0
 ·have a8 := aW3 he
  have b8 : aO6 l (a + (aD7 d).2.1) (e9 ++ [(aD7 d).1]) := by
   have h1 := HD.out;rw [h1] at he ⊢;exact j8.out.step hlt he
  have l5 := Got.of_own i1;have m6 := a8.2.1;have m7 := a8.2.2.1;have m0 : d.length = l.length - a := g7.out.symm;have n6 : xs.length <= a := by rw [i3.out]; exact i4
  rw [he];have j9 := qZ b8;have l7 := qZ l5;generalize (aD7 d).2.1 = U at m6 m7 j9 ⊢
  have hU : a + U <= l.length := by omega
  clear i2 a8 b8 l5 i1 m0 he g7;have l6 := HG.out.own;have d8 := l6.below f7 (lR _);go_wp2_with (at_builtin; refine cC0 (w := w1) rfl (.tmp 27) (.tmp 29) 23 rfl w.heap.size 34 (.slice none 0 0) 24 Tryz.underlying23 cM6 rfl u5 xs _ rfl rfl d8 rfl rfl (by omega) (by omega) a7.size ?_; intro v2 w2 g6 j6 l4)
  have i6 : Below w.heap.size w w2 := a7.grown j6 a7.size (fun k hk => (d8.lt k hk).1);have m3 := HG.out.push f7 l7.out hb.size g6 j6 l4;clear g6 j6 l4 l6 d8 f7 a7;go_wp2;go_roundw
  case rel => exact ⟨a + U, _, _, hU, by go_num, by simp; omega, j9.out, m3, i6⟩
  case measure => simp [intOf]; omega
 have f8 : aH6 l = (e9, a, (aD7 d).2.2) := by
  have h1 := HD.out;rw [h1] at he ⊢;exact j8.out.bad hlt he
 have h1 : ((aD7 d).2.2 != 0) = true := by simpa using he
 have HF := qZ f8;have m2 := HG.out.below f7 (lR _);clear i2 he f8 i1;go_wp2;go_ret3
 rw [HF.out];exact ⟨_, _, rfl, m2, a7⟩
end
section
open Go.RowKit Oct
theorem aP9.mono {w : World} {base base' : Nat} {v : Value} (h : aP9 w base v) (hb : base' <= base) : aP9 w base' v := by
 rcases h with r | ⟨g, n, cap, a7, r, hg, x⟩
 ·exact .inl r
 exact .inr ⟨g, n, cap, a7, r, by omega, x⟩
theorem aP9.below {w w' : World} {base B : Nat} {v : Value} (h : aP9 w base v) (hb : Below B w w') (hB : w.heap.size <= B) : aP9 w' base v :=
 h.keep fun g hg => hb.block g (Nat.lt_of_lt_of_le (h.lt g hg) hB)
theorem Got.rd {w : World} {base : Nat} {A : Option Addr} {n c : Nat} {l : List UInt8} (h : Got w base (.slice A n c) l) : Rd w w.heap.size A (cells l) ∧ n = l.length ∧ l.length <= c ∧ c <= 9223372036854775807 := by
 obtain ⟨A', c', h1, h2, h3, h4⟩ := h.shape;injection h1 with h1 h5 h6
 subst h1; subst h5; subst h6;exact ⟨h4, rfl, h2, h3⟩
end
section
open Oct
def cat (ls : List (List UInt8)) : List UInt8 := ls.flatMap aE1
theorem bC0 : cat [] = [] := rfl
theorem bB9 (a b : List (List UInt8)) : cat (a ++ b) = cat a ++ cat b := List.flatMap_append
theorem aN1 (p : List UInt8) (ls : List (List UInt8)) : cat (p :: ls) = aE1 p ++ cat ls := by simp [cat]
theorem dA5 (ls : List (List UInt8)) (k : Nat) (h : k < ls.length) : cat (ls.take (k + 1)) = cat (ls.take k) ++ aE1 ls[k] := by
 rw [List.take_add_one, lW h, bB9];simp [cat]
theorem bI8 (ls : List (List UInt8)) (k : Nat) : cat ls = cat (ls.take k) ++ cat (ls.drop k) := by
 rw [<- bB9, List.take_append_drop]
theorem dA4 (ls : List (List UInt8)) {i j : Nat} (h : i <= j) : (cat (ls.take i)).length <= (cat (ls.take j)).length := by
 have : ls.take i = (ls.take j).take i := by rw [List.take_take, Nat.min_eq_left h]
 rw [this, bI8 (ls.take j) i, lT];omega
theorem bR2 (ls : List (List UInt8)) (hs : ∀ p ∈ ls, p.length <= 1048576) : ∀ (pre t : List UInt8) (a7 : List (List UInt8)), aO6 (pre ++ cat ls ++ t) pre.length a7 -> aO6 (pre ++ cat ls ++ t) (pre ++ cat ls).length (a7 ++ ls) := by
 induction ls with
 | nil =>
  intro pre t a7 h
  simpa [cat] using h
 | cons p r ih =>
  intro pre t a7 h;have hp := hs p (by simp);have e : pre ++ cat (p :: r) ++ t = (pre ++ aE1 p) ++ cat r ++ t := by simp [aN1]
  have hd : (pre ++ cat (p :: r) ++ t).drop pre.length = aE1 p ++ (cat r ++ t) := by
   rw [List.append_assoc, List.drop_left, aN1, List.append_assoc]
  have ho := aX1 p (cat r ++ t) hp;have hl := dD9 p;have h1 := h.step (by rw [e]; simp; omega) (by rw [hd, ho]);rw [hd, ho] at h1;simp only at h1;rw [e] at h1 ⊢;have h2 := ih (fun q hq => hs q (by simp [hq])) (pre ++ aE1 p) t (a7 ++ [p]) (by rw [lT]; exact h1);have e2 : (pre ++ cat (p :: r)).length = (pre ++ aE1 p ++ cat r).length := by simp [aN1, List.append_assoc]
  rw [e2, show a7 ++ p :: r = a7 ++ [p] ++ r by simp];exact h2
theorem dE6 (ls : List (List UInt8)) (hs : ∀ p ∈ ls, p.length <= 1048576) : aH6 (cat ls) = (ls, (cat ls).length, 0) := by
 have h := bR2 ls hs [] [] [] (by simpa using aO6.start (cat ls));simp only [List.nil_append, List.append_nil] at h;exact h.done (lR _)
theorem cX3 (p t u : List UInt8) (hp : p.length <= 1048576) (h : aE1 p = t ++ u) (hu : 0 < u.length) : (aD7 t).2.2 ≠ 0 := by
 intro he;obtain ⟨f1, f2, f3, f4⟩ := aW3 he;have h1 : aE1 p = aE1 (aD7 t).1 ++ (t.drop (aD7 t).2.1 ++ u) := by
  rw [<- f4, <- List.append_assoc, List.take_append_drop, h]
 have h2 := aX1 p [] hp;have h3 := aX1 (aD7 t).1 (t.drop (aD7 t).2.1 ++ u) f1;rw [<- h1] at h3;rw [List.append_nil, h3] at h2;have h4 : (aE1 (aD7 t).1).length = (aE1 p).length := congrArg (fun x => x.2.1) h2;have h5 : (aE1 (aD7 t).1).length = (aD7 t).2.1 := by rw [<- f4, lV]; omega
 have h6 := congrArg List.length h;rw [lT] at h6;omega
theorem cY2 (ls : List (List UInt8)) (hs : ∀ p ∈ ls, p.length <= 1048576) (n W : Nat) (hn : n <= (cat ls).length) (hW : W <= ls.length) (h1 : (cat (ls.take W)).length <= n) (h2 : W = ls.length ∨ n < (cat (ls.take (W + 1))).length) :
  ∃ e, aH6 ((cat ls).take n) = (ls.take W, (cat (ls.take W)).length, e) ∧ (e = 0 ↔ (cat (ls.take W)).length = n) := by
 have f7 := bI8 ls W;have hB : (cat ls).take n = cat (ls.take W) ++ (cat (ls.drop W)).take (n - (cat (ls.take W)).length) := by
  rw [f7, List.take_append, List.take_of_length_le h1]
 have a8 : ((cat ls).take n).length = n := by rw [lV]; omega
 have a9 := bR2 (ls.take W) (fun p hp => hs p (List.mem_of_mem_take hp)) [] ((cat (ls.drop W)).take (n - (cat (ls.take W)).length)) [] (by simpa using aO6.start _);simp only [List.nil_append] at a9;rw [<- hB] at a9;by_cases he : (cat (ls.take W)).length = n
 ·refine ⟨0, ?_, by simp [he]⟩
  have := a9.done (by rw [a8]; omega);rw [this]
 rcases h2 with h2 | h2
 ·exfalso
  rw [h2, List.take_length] at h1 he;omega
 have b8 : W < ls.length := by
  rcases Nat.lt_or_ge W ls.length with h | h
  ·exact h
  rw [List.take_of_length_le (by omega)] at h1 h2;omega
 have hd : ((cat ls).take n).drop (cat (ls.take W)).length = (cat (ls.drop W)).take (n - (cat (ls.take W)).length) := by
  rw [hB, List.drop_left]
 have d8 := dA5 ls W b8;rw [d8, lT] at h2;have e9 : cat (ls.drop W) = aE1 ls[W] ++ cat (ls.drop (W + 1)) := by
  rw [List.drop_eq_getElem_cons b8, aN1]
 have ht : (cat (ls.drop W)).take (n - (cat (ls.take W)).length) = (aE1 ls[W]).take (n - (cat (ls.take W)).length) := by
  rw [e9, List.take_append_of_le_length (by omega)]
 have a7 : (aD7 (((cat ls).take n).drop (cat (ls.take W)).length)).2.2 ≠ 0 := by
  rw [hd, ht];exact cX3 ls[W] _ ((aE1 ls[W]).drop (n - (cat (ls.take W)).length)) (hs _ (lX b8)) (List.take_append_drop _ _).symm (by rw [lZ]; omega)
 refine ⟨_, a9.bad (by rw [a8]; omega) a7, ⟨fun h => absurd h a7, fun h => absurd h he⟩⟩
end
section
open Go.RowKit Oct
def rising (last : Int) : List Int -> Bool
 | [] => true
 | v :: r => decide (last < v) && rising v r
end
section
open Go.RowKit Oct
def cQ7 (W : World) (g : Nat) (i t : Int) (x y : Value) : Prop :=
 W.cell? ⟨g, 0, none⟩ = some (.int .i64 i) ∧ W.cell? ⟨g, 1, none⟩ = some (.int .i64 t) ∧ W.cell? ⟨g, 2, none⟩ = some x ∧ W.cell? ⟨g, 3, none⟩ = some y
theorem cQ7.below {w w' : World} {g B : Nat} {i t : Int} {x y : Value} (h : cQ7 w g i t x y) (hb : Below B w w') (hg : g < B) : cQ7 w' g i t x y :=
 ⟨(hb.cell hg).trans h.1, (hb.cell hg).trans h.2.1, (hb.cell hg).trans h.2.2.1, (hb.cell hg).trans h.2.2.2⟩
end
section
open Go.RowKit Oct
def rI (b : List UInt8) : Int := aI4 (aB9 maxU b).1
end
section
open Go.RowKit Oct
end
section
open Go.RowKit Oct
structure But (x y : Value) (w w' : World) : Prop where
 os : w'.os = w.os
 tape : w'.tape = w.tape
 output : w'.output = w.output
 size : w.heap.size <= w'.heap.size
 block : ∀ k, k < w.heap.size -> x.ownBlock ≠ some k -> y.ownBlock ≠ some k -> w'.heap[k]? = w.heap[k]?
theorem But.below {x y : Value} {w w' : World} (h : But x y w w') {base : Nat} (hB : base <= w.heap.size) (h1 : ∀ k, x.ownBlock = some k -> base <= k) (h2 : ∀ k, y.ownBlock = some k -> base <= k) : Below base w w' :=
 ⟨h.os, h.tape, h.output, h.size, fun k hk => h.block k (by omega) (fun e => by have := h1 k e; omega) (fun e => by have := h2 k e; omega)⟩
theorem But.set {x y : Value} {w w' : World} (h : But x y w w') {g : Nat} (hg : x.ownBlock = some g) (q : Nat) (u : Value) : But x y w (w'.setCell ⟨g, q, none⟩ u) :=
 ⟨h.os, h.tape, h.output, by simp [World.setCell, h.size], fun k hk h1 h2 => (Below.heap_setCell _ _ _ _ (by rintro rfl; exact h1 hg)).trans (h.block k hk h1 h2)⟩
end
section
open Go.RowKit Oct
theorem But.after {x y : Value} {w w1 w2 : World} (hb : Below w.heap.size w w1) (h : But x y w1 w2) : But x y w w2 :=
 ⟨h.os.trans hb.os, h.tape.trans hb.tape, h.output.trans hb.output, Nat.le_trans hb.size h.size, fun k hk h1 h2 => (h.block k (by have := hb.size; omega) h1 h2).trans (hb.block k hk)⟩
end
end Go.Proofs.YtgeofijddhflaaaGreatDoor
