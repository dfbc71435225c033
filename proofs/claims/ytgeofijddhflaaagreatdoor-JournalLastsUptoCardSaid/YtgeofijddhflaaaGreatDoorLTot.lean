/- The writers of layer 1 and of its reference at every input, each in one statement. Condition: ints fit their kind, texts and rows take at most 2^47 bytes. -/
import Derived.Test.YtgeofijddhflaaaGreatDoorLOwned
import Derived.Test.YtgeofijddhflaaaGreatDoorLOpen
set_option linter.unusedVariables false
set_option linter.unusedSimpArgs false
namespace Go.Proofs.YtgeofijddhflaaaGreatDoor
section
open Go.RowKit Oct
def cC2 (n : Int) : List UInt8 := if n < 0 then [] else enc n.toNat
def dP3 (n : Int) : Int := if n < 0 then 1 else 0
def bP5 (l : List UInt8) : List UInt8 := if 65535 < l.length then [] else enc l.length ++ l
def dP4 (l : List UInt8) : Int := if 65535 < l.length then 2 else 0
theorem dG6 (n : Int) (h : n <= 9223372036854775807) (w : World) :
  Calls Tryz.prog 115 #[.int .i64 n] w fun e w' => ∃ v, e = .returned (.tuple #[v, .int .i64 (dP3 n)]) ∧ Bs w' w.heap.size v (cC2 n) ∧ Below w.heap.size w w' := by
 unfold cC2 dP3;by_cases h0 : n < 0
 ·rw [if_pos h0, if_pos h0]
  refine (dG5 n w h0).mono ?_;rintro e w' ⟨rfl, rfl⟩;exact ⟨_, rfl, Own.nil _ _ _, lS _ _⟩
 rw [if_neg h0, if_neg h0];exact dL6 n.toNat n (by omega) w (by omega)
theorem dG0 (s : ByteArray) (h : s.size <= 140737488351232) (w : World) :
  Calls Tryz.prog 116 #[.string s] w fun e w' => ∃ v, e = .returned (.tuple #[v, .int .i64 (dP4 s.data.toList)]) ∧ Bs w' w.heap.size v (bP5 s.data.toList) ∧ Below w.heap.size w w' := by
 have hs : s.data.toList.length = s.size := by simp
 unfold bP5 dP4;rw [hs];by_cases h0 : 65535 < s.size
 ·rw [if_pos h0, if_pos h0]
  refine (cZ4 s w h0 (by omega)).mono ?_;rintro e w' ⟨rfl, rfl⟩;exact ⟨_, rfl, Own.nil _ _ _, lS _ _⟩
 rw [if_neg h0, if_neg h0];exact dL4 s w (by omega)
end
section
open Go.RowKit Oct
theorem bM0 (w : World) (base : Nat) (e : TypeId) (hb : base <= w.heap.size) : Own (w.alloc (.cells #[] e)) base e (.slice (some ⟨w.heap.size, 0, none⟩) 0 0) [] := World.ownsRow_made w #[] 0 hb (by simp [maxLen]) (by simp)
section
variable {P : Program} {W w : World} {ops : Array Oper} {rest : List Oper} {o : Oper} {a : Act} {Q : Exit -> Act -> World -> Prop}
theorem cH0 (b8 : o.guard = none) (s x : Operand) (t : TypeId)
  (ho : o.op = .call { callee := .builtin .append, args := #[s, x], argTypes := #[t, t] })
  (e : TypeId) (z : Value) (bytes : Nat) (ht : P.underlying t = some (.slice e)) (a8 : (P.info? e).map (fun i => (i.zero, i.size, i.bytes)) = some (some z, 1, bytes)) (d8 : z.cells.size = 1)
  (hs : a.eval s = .slice (some ⟨W.heap.size, 0, none⟩) 0 0)
  (A : Option Addr) (m c : Nat) (news : List Value) (hx : a.eval x = .slice A m c) (hm : m = news.length) (hr : Rd W W.heap.size A news) (h1 : ∀ u ∈ news, u.oneCell' = true)
  (e9 : m <= 9223372036854775807) (a7 : m * bytes <= 140737488355328)
  (h : ∀ v' w', Own w' W.heap.size e v' news -> Below W.heap.size W w' -> wpList P ops Q rest (a.put o.dst v') w') : wpList P ops Q (o :: rest) a (W.alloc (.cells #[] e)) := by
 have a9 := bM0 W W.heap.size e (lR _);refine aB5 b8 s x t ho W.heap.size e z bytes ht a8 d8 _ [] hs a9 W.heap.size A m c news hx hm (hr.alloc (lR _) _) h1 (by unfold maxLen; simp; omega) (by simpa using a7) (by simp) fun v' w' h2 h3 h4 => ?_
 exact h v' w' (by simpa using h2) (((lS _ W).alloc (lR _) _).grown h3 (by simp) fun k hk => (a9.lt k hk).1)
end
end
section
open Go.RowKit Oct
theorem bN3 {m n : Nat} (h : n <= m) (b : List UInt8) : aB9 m (enc n ++ b) = (n, (enc n).length, 0) := by
 unfold aB9;rw [cD2 h]
 rfl
theorem cW3 {m n : Nat} (h : n <= m) (hm : m <= maxI) (b : List UInt8) : lenOf m (enc n ++ b) = (n, 0) := by
 unfold lenOf;rw [cD2 (by omega)];rw [if_pos rfl, if_neg (by show ¬ m < n; omega)]
theorem cZ1 (s b : List UInt8) (h : s.length <= 65535) : aH5 (enc s.length ++ s ++ b) = (s, (enc s.length ++ s).length, 0) := by
 rw [List.append_assoc];unfold aH5;rw [cW3 h (by unfold maxI; omega), if_pos rfl, cD2 (by unfold maxI; omega)];show (if (enc s.length ++ (s ++ b)).length - (enc s.length).length < s.length then _ else _) = _
 rw [if_neg (by simp only [lT]; omega)];show (List.take s.length (List.drop (enc s.length).length (enc s.length ++ (s ++ b))), (enc s.length).length + s.length, (0 : Int)) = _
 rw [List.drop_left, List.take_left, lT]
theorem cO2 {m : Nat} {l : List UInt8} (h : (lenOf m l).2 = 0) : (cnt maxI l).2.2 = 0 ∧ (lenOf m l).1 = (cnt maxI l).1 ∧ (cnt maxI l).1 <= m := by
 unfold lenOf at h ⊢;by_cases h1 : (cnt maxI l).2.2 = 0
 ·rw [if_pos h1] at h ⊢
  by_cases h2 : m < (cnt maxI l).1
  ·rw [if_pos h2] at h
   cases h
  rw [if_neg h2];exact ⟨h1, rfl, by omega⟩
 rw [if_neg h1] at h;exact absurd h h1
theorem cQ2 {l : List UInt8} (h : (aH5 l).2.2 = 0) : (aH5 l).2.1 <= l.length ∧ l.take (aH5 l).2.1 = enc (aH5 l).1.length ++ (aH5 l).1 ∧ (aH5 l).1.length <= 65535 := by
 unfold aH5 at h ⊢;by_cases h1 : (lenOf 65535 l).2 = 0
 ·rw [if_pos h1] at h ⊢
  by_cases h2 : l.length - (cnt maxI l).2.1 < (lenOf 65535 l).1
  ·rw [if_pos h2] at h
   cases h
  rw [if_neg h2];obtain ⟨g1, g2, g3⟩ := cO2 h1;obtain ⟨f1, f2, f3⟩ := cI1 g1;show (cnt maxI l).2.1 + (lenOf 65535 l).1 <= l.length ∧ l.take ((cnt maxI l).2.1 + (lenOf 65535 l).1) = enc ((l.drop (cnt maxI l).2.1).take (lenOf 65535 l).1).length ++ (l.drop (cnt maxI l).2.1).take (lenOf 65535 l).1 ∧ ((l.drop (cnt maxI l).2.1).take (lenOf 65535 l).1).length <= 65535
  have a7 : ((l.drop (cnt maxI l).2.1).take (lenOf 65535 l).1).length = (lenOf 65535 l).1 := by simp; omega
  rw [a7, g2, <- f3, g2.symm];refine ⟨by omega, ?_, by omega⟩;rw [List.take_add]
 rw [if_neg h1] at h;exact absurd h h1
end
end Go.Proofs.YtgeofijddhflaaaGreatDoor
